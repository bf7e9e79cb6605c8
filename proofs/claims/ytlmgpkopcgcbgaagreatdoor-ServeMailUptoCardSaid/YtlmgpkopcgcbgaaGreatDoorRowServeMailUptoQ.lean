/- The row ServeMail and its card, from what its law's call returns; printed by a program of mine. -/
import Derived.Test.YtlmgpkopcgcbgaaGreatDoorCards
import Derived.Test.YtlmgpkopcgcbgaaGreatDoorTie
import Derived.Test.YtlmgpkopcgcbgaaGreatDoorQServeMail27
import Derived.Test.YtlmgpkopcgcbgaaGreatDoorQServeMail26
import Derived.Deep.DeepHandedRow
import Derived.ProofKit
import Derived.LaidMore
import Derived.OpenShut
import Derived.Lay
import Derived.MakeChecks
import Derived.Stop.Joined
import Derived.SevenTiedAt
import Derived.Carry
namespace Go.Proofs.YtlmgpkopcgcbgaaGreatDoor.serveMailUpto
open Go.ChangeShapes Go.WideShapes Go.ChangeAt Go.WideMaps Go.WideElems Go.RowKit Go.Abs
set_option maxRecDepth 100000
set_option linter.unusedVariables false
set_option linter.unusedSimpArgs false
theorem own : ownKnob Tryz.prog.godebug = none := by kernel_rfl
theorem laidOut : laidOutB Tryz.prog = true := by kernel_rfl
abbrev laidL : List (String × DataW Unit) := Rows.serveMailUptoRow.laid
theorem door_met (os : Os) (args : Array Value) : laidMetH Tryz.prog laidL ((World.laidAll Tryz.prog os laidL).forCall (fun _ _ => 0) ⟨#[], args, []⟩).memory := by
  rw [MakeChecks.laidMetH_plain _ _ _ (by kernel_rfl)]
  exact laidMet_laidAll _ (by kernel_rfl) (by kernel_rfl)
abbrev T0 : Ty := Ty.str
abbrev T1 : Ty := Ty.slice .str
abbrev T2 : Ty := Ty.slice .str
theorem reads (os : Os) {H : Type} (enc : TypeId × Value → H) : ∃ places, DataW.whole enc Tryz.prog ((World.laidAll Tryz.prog os laidL).forCall (fun _ _ => 0) ⟨#[], #[.string ⟨#[]⟩, .slice none 0 0, .slice none 0 0], []⟩).memory Tryz.f4.params.toList Rows.serveMailSpec.vars false #[.string ⟨#[]⟩, .slice none 0 0, .slice none 0 0].toList 8 = some ([.lit (.string []), .nil, .nil], [], places) :=
  ⟨[], by kernel_rfl⟩
theorem lifted (law : ∀ (W : World), W.ShapedOpen Tryz.prog → laidMetH Tryz.prog laidL W → ∀ x0 : T0.D, T0.wf x0 → ∀ x1 : T1.D, T1.wf x1 → ∀ x2 : T2.D, T2.wf x2 → T0.blk x0 + T1.blk x1 + T2.blk x2 ≤ 1048576 → Abs.Call Tryz.prog W 4 [T0.val x0, T1.val x1, T2.val x2] AH.start fun v _ => v = .v (.bool true)) (os : Os) (started : os.Started) (H : Type) (enc : TypeId × Value → H) (F : Stop.Interp) :
    ReturnsInHanded {} Tryz.checked os 4 .any ((Rows.OpenSpec.upto Rows.serveMailSpec).preRow enc Tryz.prog Tryz.f4 Rows.serveMailUptoRow.domain false Rows.serveMailUptoRow.laid) (((Rows.OpenSpec.upto Rows.serveMailSpec).at F).post enc Tryz.prog Tryz.f4 false true false false) := by
  obtain ⟨places, hx⟩ := reads os enc
  have hokB : Input.okWideB Tryz.prog ((World.laidAll Tryz.prog os laidL).forCall (fun _ _ => 0) ⟨#[], #[.string ⟨#[]⟩, .slice none 0 0, .slice none 0 0], []⟩) 4 ⟨#[], #[.string ⟨#[]⟩, .slice none 0 0, .slice none 0 0], []⟩ = true := by kernel_rfl
  refine returnsInHanded_of_row (C := Tryz.checked) (s := Rows.OpenSpec.upto Rows.serveMailSpec) own started (by kernel_rfl) Tryz.func4
    ⟨World.laidAll Tryz.prog os laidL, fun _ _ => 0, ⟨#[], #[.string ⟨#[]⟩, .slice none 0 0, .slice none 0 0], []⟩, World.laidAll_os _ _ _, World.shaped_of_ZipB (by kernel_rfl) (by kernel_rfl), (Input.okWide_of_okWideB (base := 0) hokB).1, (Input.okWide_of_okWideB hokB).2,
      OpenSpec.preRow_of_cond 8 hx (by kernel_rfl) (fun k hk => by cases hk; kernel_rfl) (by kernel_rfl) (door_met os _), by
        simp only [Assume.holds]
        exact ⟨by simp, by simp, by simp, by simp, by simp⟩⟩ ?_
  intro W base args ds gs before hval0 hW _ hcond hsz hL hshO _
  have hcond : Rows.uptoSmall H (ds ++ gs) = true := hcond _ rfl
  have hval : ∀ (j : Nat) t v, Tryz.f4.params[j]? = some t → args[j]? = some v → Value.okWide Tryz.prog W .any base t v := hval0
  have hW' := hW
  obtain ⟨p, q, hA0, hV, rfl, hfz, hnd⟩ := hW
  have hA : DataW.TrodAll enc Tryz.prog W 0 (fun _ => true) true Tryz.f4.params.toList args.toList ds p := hA0
  rw [Tryz.params4] at hA hval hsz
  obtain ⟨v0, vs0, d0, ds0, p0, q0, hargs, rfl, rfl, h0, r0⟩ := trodAll_cons hA
  obtain ⟨v1, vs1, d1, ds1, p1, q1, rfl, rfl, rfl, h1, r1⟩ := trodAll_cons r0
  obtain ⟨v2, vs2, d2, ds2, p2, q2, rfl, rfl, rfl, h2, r2⟩ := trodAll_cons r1
  obtain ⟨rfl, rfl, rfl⟩ := trodAll_nil r2
  obtain rfl : args = #[v0, v1, v2] := by cases args; simp_all
  obtain ⟨rfl, rfl⟩ := trodVars_none hV
  have hlt0 : ∀ x ∈ p0, x.block < W.heap.size := fun x hx => hW'.lt x (by simp [hx])
  obtain ⟨x0, hr0, hw0, hft0, hbk0⟩ := open_blk (T := T0) (n := 12) (by kernel_rfl) (hval 0 _ v0 rfl rfl) h0

  have hlt1 : ∀ x ∈ p1, x.block < W.heap.size := fun x hx => hW'.lt x (by simp [hx])
  obtain ⟨x1, hr1, hw1, hft1, hbk1⟩ := open_blk (T := T1) (n := 12) (by kernel_rfl) (hval 1 _ v1 rfl rfl) h1

  have hlt2 : ∀ x ∈ p2, x.block < W.heap.size := fun x hx => hW'.lt x (by simp [hx])
  obtain ⟨x2, hr2, hw2, hft2, hbk2⟩ := open_blk (T := T2) (n := 12) (by kernel_rfl) (hval 2 _ v2 rfl rfl) h2

  have hbulk := of_decide_eq_true hcond
  simp only [List.append_nil, List.nil_append, List.cons_append, Rows.uptoBulkAll] at hbulk
  refine (adequate (law W hshO hL x0 hw0 x1 hw1 x2 hw2 (by omega)) (.cons hr0 (.cons hr1 (.cons hr2 .nil)))).mono fun e W' ⟨he, bel⟩ => ?_
  subst he
  exact ⟨_, rfl, _, _, _, [], _, [], hW', trodAll_mk1 (shut_bool Tryz.underlying4 _), (trodAll_cons_mk (Below.trod laidOut (by kernel_rfl) (of_decide_eq_true (by kernel_rfl)) h0 bel hlt0) (trodAll_cons_mk (Below.trod laidOut (by kernel_rfl) (of_decide_eq_true (by kernel_rfl)) h1 bel hlt1) (trodAll_cons_mk (Below.trod laidOut (by kernel_rfl) (of_decide_eq_true (by kernel_rfl)) h2 bel hlt2) trodAll_mk0))), rfl, bel.frame _, fun h => by cases h⟩
theorem over (law : ∀ (W : World), W.ShapedOpen Tryz.prog → laidMetH Tryz.prog laidL W → ∀ x0 : T0.D, T0.wf x0 → ∀ x1 : T1.D, T1.wf x1 → ∀ x2 : T2.D, T2.wf x2 → T0.blk x0 + T1.blk x1 + T2.blk x2 ≤ 1048576 → Abs.Call Tryz.prog W 4 [T0.val x0, T1.val x1, T2.val x2] AH.start fun v _ => v = .v (.bool true)) : Rows.serveMailUptoRow.holds Tryz.pinned (Rows.OpenSpec.upto Rows.serveMailSpec) :=
  OpenClaim.holds_of_cond 4 Tryz.f4 rfl rfl rfl rfl rfl rfl rfl ⟨rfl, rfl, rfl, rfl, rfl⟩ rfl rfl rfl rfl rfl (by kernel_rfl) Tryz.func4 (by kernel_rfl)
    (of_decide_eq_true (by kernel_rfl)) (by unfold Func.isWrapper; first | (rw [if_pos (by decide +kernel)]; kernel_rfl) | (rw [if_neg (by decide +kernel)]; exact ⟨rfl, rfl⟩))
    (fun os started H enc _ F => by rw [OpenClaim.pre_eq_preRow]; exact lifted law os started H enc F)
theorem card (law : ∀ (W : World), W.ShapedOpen Tryz.prog → laidMetH Tryz.prog laidL W → ∀ x0 : T0.D, T0.wf x0 → ∀ x1 : T1.D, T1.wf x1 → ∀ x2 : T2.D, T2.wf x2 → T0.blk x0 + T1.blk x1 + T2.blk x2 ≤ 1048576 → Abs.Call Tryz.prog W 4 [T0.val x0, T1.val x1, T2.val x2] AH.start fun v _ => v = .v (.bool true)) : Rows.ServeMailUptoCardSaid :=
  Claim7.holds_tied_plain_at .later [] [.data, .data, .data, .data, .sentinel, .sentinel, .pinned] true (true, "7f6ba5eb9271312be9994ef4f3e58c56a0feb29976c71aa59ed1ea18574f2bcf") true
    (over law) (fun _ h => by cases h) (by kernel_rfl) (fun _ h => by cases h) serveMailUpto_row_tie rfl ⟨rfl, rfl⟩ (by kernel_rfl) rfl
    (fun f fn hf hfn => by
      obtain rfl : f = 4 := Option.some.inj ((show Tryz.prog.funcNamed "estafette/estafettelaw06.ServeMail" = some 4 by kernel_rfl).symm.trans hf) |>.symm
      obtain rfl : fn = Tryz.f4 := (Option.some.inj (Tryz.func4.symm.trans hfn)).symm
      exact ⟨by kernel_rfl, fun j t ht => by
        have hall : (Tryz.f4.params.toList.all fun u => !Tryz.prog.wantsStandIn u) = true := by kernel_rfl
        have hm : t ∈ Tryz.f4.params.toList := by simpa using Array.mem_of_getElem? ht
        exact (show Tryz.prog.wantsStandIn t = false by simpa using List.all_eq_true.1 hall t hm)⟩)
    (by kernel_rfl)
theorem proved : Rows.ServeMailUptoCardSaid := card @Go.Abs.F.law_ServeMailUpto
end Go.Proofs.YtlmgpkopcgcbgaaGreatDoor.serveMailUpto
namespace Go.Proofs.YtlmgpkopcgcbgaaGreatDoor
/-- The card, under a short name, for the claim. -/
theorem serveMailUpto_holds : Rows.ServeMailUptoCardSaid := serveMailUpto.proved
#print axioms serveMailUpto_holds
end Go.Proofs.YtlmgpkopcgcbgaaGreatDoor
