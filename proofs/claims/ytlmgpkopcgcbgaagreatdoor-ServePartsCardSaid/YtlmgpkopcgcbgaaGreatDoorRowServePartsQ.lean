/- The row ServeParts and its card, from what its law's call returns; printed by a program of mine. -/
import Derived.Test.YtlmgpkopcgcbgaaGreatDoorCards
import Derived.Test.YtlmgpkopcgcbgaaGreatDoorTie
import Derived.Test.YtlmgpkopcgcbgaaGreatDoorQServeParts24
import Derived.ProofKit
import Derived.LaidMore
import Derived.OpenShut
import Derived.Lay
import Derived.MakeChecks
import Derived.Stop.Joined
import Derived.SevenTiedAt
import Derived.Carry
namespace Go.Proofs.YtlmgpkopcgcbgaaGreatDoor.serveParts
open Go.ChangeShapes Go.WideShapes Go.ChangeAt Go.WideMaps Go.WideElems Go.RowKit Go.Abs
set_option maxRecDepth 100000
set_option linter.unusedVariables false
theorem own : ownKnob Tryz.prog.godebug = none := by kernel_rfl
theorem laidOut : laidOutB Tryz.prog = true := by kernel_rfl
abbrev laidL : List (String × DataW Unit) := Rows.servePartsRow.laid
theorem door_met (os : Os) (args : Array Value) : laidMetH Tryz.prog laidL ((World.laidAll Tryz.prog os laidL).forCall (fun _ _ => 0) ⟨#[], args, []⟩).memory := by
  rw [MakeChecks.laidMetH_plain _ _ _ (by kernel_rfl)]
  exact laidMet_laidAll _ (by kernel_rfl) (by kernel_rfl)
abbrev T0 : Ty := Ty.slice (.int .u8)
abbrev T1 : Ty := Ty.slice (.int .u8)
theorem lifted (law : ∀ (W : World), W.ShapedOpen Tryz.prog → laidMetH Tryz.prog laidL W → ∀ x0 : T0.D, T0.wf x0 → T0.fit 140737488351232 x0 → ∀ x1 : T1.D, T1.wf x1 → T1.fit 140737488351232 x1 → Abs.Call Tryz.prog W 3 [T0.val x0, T1.val x1] AH.start fun v _ => v = .v (.bool true)) (os : Os) (started : os.Started) (H : Type) (enc : TypeId × Value → H) :
    ReturnsInHanded {} Tryz.checked os 3 .any (fun w args => (Rows.servePartsSpec.pre enc Tryz.prog Tryz.f3 [] false w args ∧ laidMetH Tryz.prog laidL w) ∧ sizedMet enc Tryz.prog Tryz.f3 (OpenSpec.ofChange Rows.servePartsSpec) false w args)
      (Rows.servePartsSpec.post enc Tryz.prog Tryz.f3 false true false false) := by
  refine returnsInHanded_of_calls (C := Tryz.checked) own started (by kernel_rfl) (ChangeSpec.witness_shaped (enc := enc) (C := Tryz.checked) (os := os) (X := fun w _ => laidMetH Tryz.prog laidL w) false (World.laidAll Tryz.prog os laidL) #[.slice none 0 0, .slice none 0 0] 8 (World.laidAll_os _ _ _) (World.shaped_of_ZipB (by kernel_rfl) (by kernel_rfl)) (by kernel_rfl) (by kernel_rfl) (by kernel_rfl) (door_met os _)) ?_
  intro w tape i _ hsh _ hok hpre _
  obtain ⟨_, _, _, fn', hfn', _, _, _, _, hval0⟩ := hok
  have e : fn' = Tryz.f3 := Option.some.inj (hfn'.symm.trans Tryz.func3)
  subst e
  obtain ⟨⟨⟨ds, gs, before, hw, _⟩, hx⟩, hz⟩ := hpre
  have hsz := hz.weights hw
  suffices key : Calls Tryz.prog 3 i.args (w.forCall tape i) fun e W' => ∃ v, e = .returned v ∧ (Rows.servePartsSpec).post enc Tryz.prog Tryz.f3 false true false false (w.forCall tape i) i.args v W' by
    refine key.mono fun e W' ⟨v, he, hp⟩ => ?_
    subst he
    exact ChangeSpec.post_blind hp
  have hW := DataW.Whole.of_heap (w' := w.forCall tape i) (by rfl) hw
  have hL : laidMetH Tryz.prog laidL (w.forCall tape i) := hx.of_heap (by rfl)
  have hval : ∀ (j : Nat) t v, Tryz.f3.params[j]? = some t → i.args[j]? = some v → Value.okWide Tryz.prog (w.forCall tape i) .any w.heap.size t v := hval0
  clear hx hw
  generalize w.forCall tape i = W at *
  generalize w.heap.size = base at *
  obtain ⟨blks, args, vrs⟩ := i
  dsimp only at hW hval ⊢
  have hW' := hW
  obtain ⟨p, q, hA0, hV, rfl, hfz, hnd⟩ := hW
  have hA : DataW.TrodAll enc Tryz.prog W 0 (fun _ => true) true Tryz.f3.params.toList args.toList ds p := hA0
  rw [Tryz.params3] at hA hval hsz
  obtain ⟨v0, vs0, d0, ds0, p0, q0, hargs, rfl, rfl, h0, r0⟩ := trodAll_cons hA
  obtain ⟨v1, vs1, d1, ds1, p1, q1, rfl, rfl, rfl, h1, r1⟩ := trodAll_cons r0
  obtain ⟨rfl, rfl, rfl⟩ := trodAll_nil r1
  obtain rfl : args = #[v0, v1] := by cases args; simp_all
  obtain ⟨rfl, rfl⟩ := trodVars_none hV
  have hlt0 : ∀ x ∈ p0, x.block < W.heap.size := fun x hx => hW'.lt x (by simp [hx])
  obtain ⟨x0, hr0, hw0, hft0⟩ := open_arg (T := T0) (n := 12) (by kernel_rfl) (hval 0 _ v0 rfl rfl) h0
  have hfit0 := hft0 140737488351232 (fun k hk => (show k ≤ reachBytes from of_decide_eq_true (List.all_eq_true.1 hsz k (DataW.weights_mem_each (j := 0) rfl rfl k hk))))
  have hlt1 : ∀ x ∈ p1, x.block < W.heap.size := fun x hx => hW'.lt x (by simp [hx])
  obtain ⟨x1, hr1, hw1, hft1⟩ := open_arg (T := T1) (n := 12) (by kernel_rfl) (hval 1 _ v1 rfl rfl) h1
  have hfit1 := hft1 140737488351232 (fun k hk => (show k ≤ reachBytes from of_decide_eq_true (List.all_eq_true.1 hsz k (DataW.weights_mem_each (j := 1) rfl rfl k hk))))
  refine (adequate (law W hsh hL x0 hw0 hfit0 x1 hw1 hfit1) (.cons hr0 (.cons hr1 .nil))).mono fun e W' ⟨he, bel⟩ => ?_
  subst he
  exact ⟨_, rfl, _, _, _, [], _, [], hW', trodAll_mk1 (shut_bool Tryz.underlying4 _), (trodAll_cons_mk (Below.trod laidOut (by kernel_rfl) (of_decide_eq_true (by kernel_rfl)) h0 bel hlt0) (trodAll_cons_mk (Below.trod laidOut (by kernel_rfl) (of_decide_eq_true (by kernel_rfl)) h1 bel hlt1) trodAll_mk0)), rfl, bel.frame _, fun h => by cases h⟩
theorem over (law : ∀ (W : World), W.ShapedOpen Tryz.prog → laidMetH Tryz.prog laidL W → ∀ x0 : T0.D, T0.wf x0 → T0.fit 140737488351232 x0 → ∀ x1 : T1.D, T1.wf x1 → T1.fit 140737488351232 x1 → Abs.Call Tryz.prog W 3 [T0.val x0, T1.val x1] AH.start fun v _ => v = .v (.bool true)) : Rows.servePartsRow.holds Tryz.pinned (OpenSpec.ofChange Rows.servePartsSpec) :=
  OpenClaim.holds_of_wide 3 Tryz.f3 rfl rfl rfl rfl rfl rfl rfl ⟨rfl, rfl, rfl, rfl, rfl⟩ rfl rfl rfl rfl rfl (by kernel_rfl) Tryz.func3 (by kernel_rfl)
    (of_decide_eq_true (by kernel_rfl)) (by unfold Func.isWrapper; first | (rw [if_pos (by decide +kernel)]; kernel_rfl) | (rw [if_neg (by decide +kernel)]; exact ⟨rfl, rfl⟩))
    (fun os started H enc _ => lifted law os started H enc)
theorem card (law : ∀ (W : World), W.ShapedOpen Tryz.prog → laidMetH Tryz.prog laidL W → ∀ x0 : T0.D, T0.wf x0 → T0.fit 140737488351232 x0 → ∀ x1 : T1.D, T1.wf x1 → T1.fit 140737488351232 x1 → Abs.Call Tryz.prog W 3 [T0.val x0, T1.val x1] AH.start fun v _ => v = .v (.bool true)) : Rows.ServePartsCardSaid :=
  Claim7.holds_tied_plain_at .later [] [.data, .data, .data, .data, .sentinel, .sentinel, .pinned] true (true, "7f6ba5eb9271312be9994ef4f3e58c56a0feb29976c71aa59ed1ea18574f2bcf") true
    (over law) (fun _ h => by cases h) (by kernel_rfl) (fun _ h => by cases h) serveParts_row_tie rfl ⟨rfl, rfl⟩ (by kernel_rfl) rfl
    (fun f fn hf hfn => by
      obtain rfl : f = 3 := Option.some.inj ((show Tryz.prog.funcNamed "estafette/estafettelaw06.ServeParts" = some 3 by kernel_rfl).symm.trans hf) |>.symm
      obtain rfl : fn = Tryz.f3 := (Option.some.inj (Tryz.func3.symm.trans hfn)).symm
      exact ⟨by kernel_rfl, fun j t ht => by
        have hall : (Tryz.f3.params.toList.all fun u => !Tryz.prog.wantsStandIn u) = true := by kernel_rfl
        have hm : t ∈ Tryz.f3.params.toList := by simpa using Array.mem_of_getElem? ht
        exact (show Tryz.prog.wantsStandIn t = false by simpa using List.all_eq_true.1 hall t hm)⟩)
    (by kernel_rfl)
theorem proved : Rows.ServePartsCardSaid := card @Go.Abs.F.law_ServeParts
end Go.Proofs.YtlmgpkopcgcbgaaGreatDoor.serveParts
namespace Go.Proofs.YtlmgpkopcgcbgaaGreatDoor
/-- The card, under a short name, for the claim. -/
theorem serveParts_holds : Rows.ServePartsCardSaid := serveParts.proved
#print axioms serveParts_holds
end Go.Proofs.YtlmgpkopcgcbgaaGreatDoor
