/- The row TableLines and its card, from what its law's call returns; printed by a program of mine. -/
import Derived.Test.YtnpdmkbfphcioaaGreatDoorCards
import Derived.Test.YtnpdmkbfphcioaaGreatDoorTie
import Derived.Test.YtnpdmkbfphcioaaGreatDoorTabN
import Derived.Test.YtnpdmkbfphcioaaGreatDoorBlk
import Derived.Deep.DeepHandedRow
import Derived.ProofKit
import Derived.LaidMore
import Derived.OpenShut
import Derived.Lay
import Derived.MakeChecks
import Derived.Stop.Joined
import Derived.SevenTiedAt
import Derived.Carry
namespace Go.Proofs.YtnpdmkbfphcioaaGreatDoor.tableLinesUpto
open Go.ChangeShapes Go.WideShapes Go.ChangeAt Go.WideMaps Go.WideElems Go.RowKit Go.Abs
set_option maxRecDepth 100000
set_option linter.unusedVariables false
set_option linter.unusedSimpArgs false
theorem own : ownKnob Tryz.prog.godebug = none := by kernel_rfl
theorem laidOut : laidOutB Tryz.prog = true := by kernel_rfl
abbrev laidL : List (String × DataW Unit) := Rows.tableLinesUptoRow.laid
theorem door_met (os : Os) (args : Array Value) : laidMetH Tryz.prog laidL ((World.laidAll Tryz.prog os laidL).forCall (fun _ _ => 0) ⟨#[], args, []⟩).memory := by
  rw [MakeChecks.laidMetH_plain _ _ _ (by kernel_rfl)]
  exact laidMet_laidAll _ (by kernel_rfl) (by kernel_rfl)
abbrev T0 : Ty := .pair (.slice (.pair .str (.pair (.slice .str) .unit))) (.pair (.slice (.pair .str (.pair .str .unit))) (.pair (.slice (.pair .bool (.pair .str .unit))) (.pair (.int .i64) .unit)))
theorem reads (os : Os) {H : Type} (enc : TypeId × Value → H) : ∃ places, DataW.whole enc Tryz.prog ((World.laidAll Tryz.prog os laidL).forCall (fun _ _ => 0) ⟨#[], #[.agg #[.slice none 0 0, .slice none 0 0, .slice none 0 0, .int .i64 0]], []⟩).memory Tryz.f7.params.toList Rows.tableLinesSpec.vars false #[.agg #[.slice none 0 0, .slice none 0 0, .slice none 0 0, .int .i64 0]].toList 8 = some ([.agg [.nil, .nil, .nil, .lit (.int .i64 0)]], [], places) :=
  ⟨[], by kernel_rfl⟩
theorem lifted (law : ∀ (W : World), laidMetH Tryz.prog laidL W → ∀ x0 : T0.D, T0.wf x0 → T0.blk x0 ≤ 1048576 → Abs.Call Tryz.prog W 7 [T0.val x0] AH.start fun v _ => v = .v (.bool true)) (os : Os) (started : os.Started) (H : Type) (enc : TypeId × Value → H) (F : Stop.Interp) :
    ReturnsInHanded {} Tryz.checked os 7 .any ((Rows.OpenSpec.upto Rows.tableLinesSpec).preRow enc Tryz.prog Tryz.f7 Rows.tableLinesUptoRow.domain false Rows.tableLinesUptoRow.laid) (((Rows.OpenSpec.upto Rows.tableLinesSpec).at F).post enc Tryz.prog Tryz.f7 false true false false) := by
  obtain ⟨places, hx⟩ := reads os enc
  have hokB : Input.okWideB Tryz.prog ((World.laidAll Tryz.prog os laidL).forCall (fun _ _ => 0) ⟨#[], #[.agg #[.slice none 0 0, .slice none 0 0, .slice none 0 0, .int .i64 0]], []⟩) 7 ⟨#[], #[.agg #[.slice none 0 0, .slice none 0 0, .slice none 0 0, .int .i64 0]], []⟩ = true := by kernel_rfl
  refine returnsInHanded_of_row (C := Tryz.checked) (s := Rows.OpenSpec.upto Rows.tableLinesSpec) own started (by kernel_rfl) Tryz.func7
    ⟨World.laidAll Tryz.prog os laidL, fun _ _ => 0, ⟨#[], #[.agg #[.slice none 0 0, .slice none 0 0, .slice none 0 0, .int .i64 0]], []⟩, World.laidAll_os _ _ _, World.shaped_of_ZipB (by kernel_rfl) (by kernel_rfl), (Input.okWide_of_okWideB (base := 0) hokB).1, (Input.okWide_of_okWideB hokB).2,
      OpenSpec.preRow_of_cond 8 hx (by kernel_rfl) (fun k hk => by cases hk; kernel_rfl) (by kernel_rfl) (door_met os _), by
        simp only [Assume.holds]
        exact ⟨by simp, by simp, by simp, by simp, by simp⟩⟩ ?_
  intro W base args ds gs before hval0 hW _ hcond hsz hL _ _
  have hcond : Rows.uptoSmall H (ds ++ gs) = true := hcond _ rfl
  have hval : ∀ (j : Nat) t v, Tryz.f7.params[j]? = some t → args[j]? = some v → Value.okWide Tryz.prog W .any base t v := hval0
  have hW' := hW
  obtain ⟨p, q, hA0, hV, rfl, hfz, hnd⟩ := hW
  have hA : DataW.TrodAll enc Tryz.prog W 0 (fun _ => true) true Tryz.f7.params.toList args.toList ds p := hA0
  rw [Tryz.params7] at hA hval hsz
  obtain ⟨v0, vs0, d0, ds0, p0, q0, hargs, rfl, rfl, h0, r0⟩ := trodAll_cons hA
  obtain ⟨rfl, rfl, rfl⟩ := trodAll_nil r0
  obtain rfl : args = #[v0] := by cases args; simp_all
  obtain ⟨rfl, rfl⟩ := trodVars_none hV
  have hlt0 : ∀ x ∈ p0, x.block < W.heap.size := fun x hx => hW'.lt x (by simp [hx])
  obtain ⟨x0, hr0, hw0, hft0, hbk0⟩ := open_blk (T := T0) (n := 12) (by kernel_rfl) (hval 0 _ v0 rfl rfl) h0

  have hbulk := of_decide_eq_true hcond
  simp only [List.append_nil, List.nil_append, List.cons_append, Rows.uptoBulkAll] at hbulk
  refine (adequate (law W hL x0 hw0 (by omega)) (.cons hr0 .nil)).mono fun e W' ⟨he, bel⟩ => ?_
  subst he
  exact ⟨_, rfl, _, _, _, [], _, [], hW', trodAll_mk1 (shut_bool Tryz.underlying4 _), (trodAll_cons_mk (Below.trod laidOut (by kernel_rfl) (of_decide_eq_true (by kernel_rfl)) h0 bel hlt0) trodAll_mk0), rfl, bel.frame _, fun h => by cases h⟩
theorem over (law : ∀ (W : World), laidMetH Tryz.prog laidL W → ∀ x0 : T0.D, T0.wf x0 → T0.blk x0 ≤ 1048576 → Abs.Call Tryz.prog W 7 [T0.val x0] AH.start fun v _ => v = .v (.bool true)) : Rows.tableLinesUptoRow.holds Tryz.pinned (Rows.OpenSpec.upto Rows.tableLinesSpec) :=
  OpenClaim.holds_of_cond 7 Tryz.f7 rfl rfl rfl rfl rfl rfl rfl ⟨rfl, rfl, rfl, rfl, rfl⟩ rfl rfl rfl rfl rfl (by kernel_rfl) Tryz.func7 (by kernel_rfl)
    (of_decide_eq_true (by kernel_rfl)) (by unfold Func.isWrapper; first | (rw [if_pos (by decide +kernel)]; kernel_rfl) | (rw [if_neg (by decide +kernel)]; exact ⟨rfl, rfl⟩))
    (fun os started H enc _ F => by rw [OpenClaim.pre_eq_preRow]; exact lifted law os started H enc F)
theorem card (law : ∀ (W : World), laidMetH Tryz.prog laidL W → ∀ x0 : T0.D, T0.wf x0 → T0.blk x0 ≤ 1048576 → Abs.Call Tryz.prog W 7 [T0.val x0] AH.start fun v _ => v = .v (.bool true)) : Rows.TableLinesUptoCardSaid :=
  Claim7.holds_tied_plain_at .later [] [.data, .data, .data, .data, .sentinel, .sentinel, .pinned] true (true, "ae1615e400f5fbfb3a2f59b32729f9681abed71fd9e30e21d8d57a19bbac1114") true
    (over law) (fun _ h => by cases h) (by kernel_rfl) (fun _ h => by cases h) tableLinesUpto_row_tie rfl ⟨rfl, rfl⟩ (by kernel_rfl) rfl
    (fun f fn hf hfn => by
      obtain rfl : f = 7 := Option.some.inj ((show Tryz.prog.funcNamed "estafette/estafettelaw14.TableLines" = some 7 by kernel_rfl).symm.trans hf) |>.symm
      obtain rfl : fn = Tryz.f7 := (Option.some.inj (Tryz.func7.symm.trans hfn)).symm
      exact ⟨by kernel_rfl, fun j t ht => by
        have hall : (Tryz.f7.params.toList.all fun u => !Tryz.prog.wantsStandIn u) = true := by kernel_rfl
        have hm : t ∈ Tryz.f7.params.toList := by simpa using Array.mem_of_getElem? ht
        exact (show Tryz.prog.wantsStandIn t = false by simpa using List.all_eq_true.1 hall t hm)⟩)
    (by kernel_rfl)
theorem proved : Rows.TableLinesUptoCardSaid := card @Go.Abs.F.law_TableLinesUpto
end Go.Proofs.YtnpdmkbfphcioaaGreatDoor.tableLinesUpto
namespace Go.Proofs.YtnpdmkbfphcioaaGreatDoor
/-- The card, under a short name, for the claim. -/
theorem tableLinesUpto_holds : Rows.TableLinesUptoCardSaid := tableLinesUpto.proved
#print axioms tableLinesUpto_holds
end Go.Proofs.YtnpdmkbfphcioaaGreatDoor
