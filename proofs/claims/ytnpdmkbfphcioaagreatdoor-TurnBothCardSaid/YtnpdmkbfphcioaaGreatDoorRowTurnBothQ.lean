/- The row TurnBoth and its card, from what its law's call returns; printed by a program of mine. -/
import Derived.Test.YtnpdmkbfphcioaaGreatDoorCards
import Derived.Test.YtnpdmkbfphcioaaGreatDoorTie
import Derived.Test.YtnpdmkbfphcioaaGreatDoorQTurn24
import Derived.ProofKit
import Derived.LaidMore
import Derived.OpenShut
import Derived.Lay
import Derived.MakeChecks
import Derived.Stop.Joined
import Derived.SevenTiedAt
import Derived.Carry
namespace Go.Proofs.YtnpdmkbfphcioaaGreatDoor.turnBoth
open Go.ChangeShapes Go.WideShapes Go.ChangeAt Go.WideMaps Go.WideElems Go.RowKit Go.Abs
set_option maxRecDepth 100000
set_option linter.unusedVariables false
theorem own : ownKnob Tryz.prog.godebug = none := by kernel_rfl
theorem laidOut : laidOutB Tryz.prog = true := by kernel_rfl
abbrev laidL : List (String × DataW Unit) := Rows.turnBothRow.laid
theorem door_met (os : Os) (args : Array Value) : laidMetH Tryz.prog laidL ((World.laidAll Tryz.prog os laidL).forCall (fun _ _ => 0) ⟨#[], args, []⟩).memory := by
  rw [MakeChecks.laidMetH_plain _ _ _ (by kernel_rfl)]
  exact laidMet_laidAll _ (by kernel_rfl) (by kernel_rfl)
abbrev T0 : Ty := Go.Abs.F.MsgT
abbrev T1 : Ty := .int .i64
abbrev T2 : Ty := .int .i64
theorem lifted (law : ∀ (W : World), laidMetH Tryz.prog laidL W → ∀ x0 : T0.D, T0.wf x0 → T0.fit 140737488351232 x0 → ∀ x1 : T1.D, T1.wf x1 → T1.fit 140737488351232 x1 → ∀ x2 : T2.D, T2.wf x2 → T2.fit 140737488351232 x2 → Abs.Call Tryz.prog W 8 [T0.val x0, T1.val x1, T2.val x2] AH.start fun v _ => v = .v (.bool true)) (os : Os) (started : os.Started) (H : Type) (enc : TypeId × Value → H) :
    ReturnsInHanded {} Tryz.checked os 8 .any (fun w args => (Rows.turnBothSpec.pre enc Tryz.prog Tryz.f8 [] false w args ∧ laidMetH Tryz.prog laidL w) ∧ sizedMet enc Tryz.prog Tryz.f8 (OpenSpec.ofChange Rows.turnBothSpec) false w args)
      (Rows.turnBothSpec.post enc Tryz.prog Tryz.f8 false true false false) := by
  refine returnsInHanded_of_change_and (C := Tryz.checked) (X := fun w _ => laidMetH Tryz.prog laidL w) (fun _ _ _ hh h => h.of_heap hh) own started (by kernel_rfl) Tryz.func8
    (ChangeSpec.witness_shaped (enc := enc) (C := Tryz.checked) (os := os) (X := fun w _ => laidMetH Tryz.prog laidL w) false (World.laidAll Tryz.prog os laidL) #[.agg #[.int .i64 0, .int .i64 0, .int .i64 0, .int .i64 0, .int .i64 0, .string ByteArray.empty, .slice none 0 0, .slice none 0 0, .slice none 0 0], .int .i64 0, .int .i64 0] 8 (World.laidAll_os _ _ _) (World.shaped_of_ZipB (by kernel_rfl) (by kernel_rfl)) (by kernel_rfl) (by kernel_rfl) (by kernel_rfl) (door_met os _)) ?_
  intro W base args ds gs before hval0 hW _ hsz hL _
  have hval : ∀ (j : Nat) t v, Tryz.f8.params[j]? = some t → args[j]? = some v → Value.okWide Tryz.prog W .any base t v := hval0
  have hW' := hW
  obtain ⟨p, q, hA0, hV, rfl, hfz, hnd⟩ := hW
  have hA : DataW.TrodAll enc Tryz.prog W 0 (fun _ => true) true Tryz.f8.params.toList args.toList ds p := hA0
  rw [Tryz.params8] at hA hval hsz
  obtain ⟨v0, vs0, d0, ds0, p0, q0, hargs, rfl, rfl, h0, r0⟩ := trodAll_cons hA
  obtain ⟨v1, vs1, d1, ds1, p1, q1, rfl, rfl, rfl, h1, r1⟩ := trodAll_cons r0
  obtain ⟨v2, vs2, d2, ds2, p2, q2, rfl, rfl, rfl, h2, r2⟩ := trodAll_cons r1
  obtain ⟨rfl, rfl, rfl⟩ := trodAll_nil r2
  obtain rfl : args = #[v0, v1, v2] := by cases args; simp_all
  obtain ⟨rfl, rfl⟩ := trodVars_none hV
  have hlt0 : ∀ x ∈ p0, x.block < W.heap.size := fun x hx => hW'.lt x (by simp [hx])
  obtain ⟨x0, hr0, hw0, hft0⟩ := open_arg (T := T0) (n := 12) (by kernel_rfl) (hval 0 _ v0 rfl rfl) h0
  have hfit0 := hft0 140737488351232 (fun k hk => (show k ≤ reachBytes from of_decide_eq_true (List.all_eq_true.1 hsz k (DataW.weights_mem_each (j := 0) rfl rfl k hk))))
  have hlt1 : ∀ x ∈ p1, x.block < W.heap.size := fun x hx => hW'.lt x (by simp [hx])
  obtain ⟨x1, hr1, hw1, hft1⟩ := open_arg (T := T1) (n := 12) (by kernel_rfl) (hval 1 _ v1 rfl rfl) h1
  have hfit1 := hft1 140737488351232 (fun k hk => (show k ≤ reachBytes from of_decide_eq_true (List.all_eq_true.1 hsz k (DataW.weights_mem_each (j := 1) rfl rfl k hk))))
  have hlt2 : ∀ x ∈ p2, x.block < W.heap.size := fun x hx => hW'.lt x (by simp [hx])
  obtain ⟨x2, hr2, hw2, hft2⟩ := open_arg (T := T2) (n := 12) (by kernel_rfl) (hval 2 _ v2 rfl rfl) h2
  have hfit2 := hft2 140737488351232 (fun k hk => (show k ≤ reachBytes from of_decide_eq_true (List.all_eq_true.1 hsz k (DataW.weights_mem_each (j := 2) rfl rfl k hk))))
  refine (adequate (law W hL x0 hw0 hfit0 x1 hw1 hfit1 x2 hw2 hfit2) (.cons hr0 (.cons hr1 (.cons hr2 .nil)))).mono fun e W' ⟨he, bel⟩ => ?_
  subst he
  exact ⟨_, rfl, _, _, _, [], _, [], hW', trodAll_mk1 (shut_bool Tryz.underlying4 _), (trodAll_cons_mk (Below.trod laidOut (by kernel_rfl) (of_decide_eq_true (by kernel_rfl)) h0 bel hlt0) (trodAll_cons_mk (Below.trod laidOut (by kernel_rfl) (of_decide_eq_true (by kernel_rfl)) h1 bel hlt1) (trodAll_cons_mk (Below.trod laidOut (by kernel_rfl) (of_decide_eq_true (by kernel_rfl)) h2 bel hlt2) trodAll_mk0))), rfl, bel.frame _, fun h => by cases h⟩
theorem over (law : ∀ (W : World), laidMetH Tryz.prog laidL W → ∀ x0 : T0.D, T0.wf x0 → T0.fit 140737488351232 x0 → ∀ x1 : T1.D, T1.wf x1 → T1.fit 140737488351232 x1 → ∀ x2 : T2.D, T2.wf x2 → T2.fit 140737488351232 x2 → Abs.Call Tryz.prog W 8 [T0.val x0, T1.val x1, T2.val x2] AH.start fun v _ => v = .v (.bool true)) : Rows.turnBothRow.holds Tryz.pinned (OpenSpec.ofChange Rows.turnBothSpec) :=
  OpenClaim.holds_of_wide 8 Tryz.f8 rfl rfl rfl rfl rfl rfl rfl ⟨rfl, rfl, rfl, rfl, rfl⟩ rfl rfl rfl rfl rfl (by kernel_rfl) Tryz.func8 (by kernel_rfl)
    (of_decide_eq_true (by kernel_rfl)) (by unfold Func.isWrapper; first | (rw [if_pos (by decide +kernel)]; kernel_rfl) | (rw [if_neg (by decide +kernel)]; exact ⟨rfl, rfl⟩))
    (fun os started H enc _ => lifted law os started H enc)
theorem card (law : ∀ (W : World), laidMetH Tryz.prog laidL W → ∀ x0 : T0.D, T0.wf x0 → T0.fit 140737488351232 x0 → ∀ x1 : T1.D, T1.wf x1 → T1.fit 140737488351232 x1 → ∀ x2 : T2.D, T2.wf x2 → T2.fit 140737488351232 x2 → Abs.Call Tryz.prog W 8 [T0.val x0, T1.val x1, T2.val x2] AH.start fun v _ => v = .v (.bool true)) : Rows.TurnBothCardSaid :=
  Claim7.holds_tied_plain_at .later [] [.data, .data, .data, .data, .sentinel, .sentinel, .pinned] true (true, "ae1615e400f5fbfb3a2f59b32729f9681abed71fd9e30e21d8d57a19bbac1114") true
    (over law) (fun _ h => by cases h) (by kernel_rfl) (fun _ h => by cases h) turnBoth_row_tie rfl ⟨rfl, rfl⟩ (by kernel_rfl) rfl
    (fun f fn hf hfn => by
      obtain rfl : f = 8 := Option.some.inj ((show Tryz.prog.funcNamed "estafette/estafettelaw13.TurnBoth" = some 8 by kernel_rfl).symm.trans hf) |>.symm
      obtain rfl : fn = Tryz.f8 := (Option.some.inj (Tryz.func8.symm.trans hfn)).symm
      exact ⟨by kernel_rfl, fun j t ht => by
        have hall : (Tryz.f8.params.toList.all fun u => !Tryz.prog.wantsStandIn u) = true := by kernel_rfl
        have hm : t ∈ Tryz.f8.params.toList := by simpa using Array.mem_of_getElem? ht
        exact (show Tryz.prog.wantsStandIn t = false by simpa using List.all_eq_true.1 hall t hm)⟩)
    (by kernel_rfl)
theorem proved : Rows.TurnBothCardSaid := card @Go.Abs.F.law_TurnBoth
end Go.Proofs.YtnpdmkbfphcioaaGreatDoor.turnBoth
namespace Go.Proofs.YtnpdmkbfphcioaaGreatDoor
/-- The card, under a short name, for the claim. -/
theorem turnBoth_holds : Rows.TurnBothCardSaid := turnBoth.proved
#print axioms turnBoth_holds
end Go.Proofs.YtnpdmkbfphcioaaGreatDoor
