/- The row SendPlays and its card, from what its law's call returns; printed by a program of mine. -/
import Derived.Test.YtlmgpkopcgcbgaaDoorCards
import Derived.Test.YtlmgpkopcgcbgaaDoorTie
import Derived.Test.YtlmgpkopcgcbgaaDoorQSendPlays21
import Derived.ProofKit
import Derived.LaidMore
import Derived.OpenShut
import Derived.Lay
import Derived.MakeChecks
import Derived.Stop.Joined
import Derived.SevenTiedAt
import Derived.Carry
namespace Go.Proofs.YtlmgpkopcgcbgaaDoor.sendPlays
open Go.ChangeShapes Go.WideShapes Go.ChangeAt Go.WideMaps Go.WideElems Go.RowKit Go.Abs
set_option maxRecDepth 100000
set_option linter.unusedVariables false
theorem own : ownKnob Tryd.prog.godebug = none := by kernel_rfl
theorem laidOut : laidOutB Tryd.prog = true := by kernel_rfl
abbrev laidL : List (String × DataW Unit) := Rows.sendPlaysRow.laid
theorem door_met (os : Os) (args : Array Value) : laidMetH Tryd.prog laidL ((World.laidAll Tryd.prog os laidL).forCall (fun _ _ => 0) ⟨#[], args, []⟩).memory := by
  rw [MakeChecks.laidMetH_plain _ _ _ (by kernel_rfl)]
  exact laidMet_laidAll _ (by kernel_rfl) (by kernel_rfl)
abbrev T0 : Ty := .str
abbrev T1 : Ty := .str
abbrev T2 : Ty := .slice .str
abbrev T3 : Ty := .slice .str
abbrev T4 : Ty := .slice (.slice (.int .u8))
abbrev T5 : Ty := .int .u8
theorem lifted (law : ∀ (W : World), W.ShapedOpen Tryd.prog → laidMetH Tryd.prog laidL W → ∀ x0 : T0.D, T0.wf x0 → T0.fit 140737488351232 x0 → ∀ x1 : T1.D, T1.wf x1 → T1.fit 140737488351232 x1 → ∀ x2 : T2.D, T2.wf x2 → T2.fit 140737488351232 x2 → ∀ x3 : T3.D, T3.wf x3 → T3.fit 140737488351232 x3 → ∀ x4 : T4.D, T4.wf x4 → T4.fit 140737488351232 x4 → ∀ x5 : T5.D, T5.wf x5 → T5.fit 140737488351232 x5 → Abs.Call Tryd.prog W 3 [T0.val x0, T1.val x1, T2.val x2, T3.val x3, T4.val x4, T5.val x5] AH.start fun v _ => v = .v (.bool true)) (os : Os) (started : os.Started) (H : Type) (enc : TypeId × Value → H) :
    ReturnsInHanded {} Tryd.checked os 3 .any (fun w args => (Rows.sendPlaysSpec.pre enc Tryd.prog Tryd.f3 [] false w args ∧ laidMetH Tryd.prog laidL w) ∧ sizedMet enc Tryd.prog Tryd.f3 (OpenSpec.ofChange Rows.sendPlaysSpec) false w args)
      (Rows.sendPlaysSpec.post enc Tryd.prog Tryd.f3 false true false false) := by
  refine returnsInHanded_of_calls (C := Tryd.checked) own started (by kernel_rfl) (ChangeSpec.witness_shaped (enc := enc) (C := Tryd.checked) (os := os) (X := fun w _ => laidMetH Tryd.prog laidL w) false (World.laidAll Tryd.prog os laidL) #[.string ⟨#[]⟩, .string ⟨#[]⟩, .slice none 0 0, .slice none 0 0, .slice none 0 0, .int .u8 0] 8 (World.laidAll_os _ _ _) (World.shaped_of_ZipB (by kernel_rfl) (by kernel_rfl)) (by kernel_rfl) (by kernel_rfl) (by kernel_rfl) (door_met os _)) ?_
  intro w tape i _ hsh _ hok hpre _
  obtain ⟨_, _, _, fn', hfn', _, _, _, _, hval0⟩ := hok
  have e : fn' = Tryd.f3 := Option.some.inj (hfn'.symm.trans Tryd.func3)
  subst e
  obtain ⟨⟨⟨ds, gs, before, hw, _⟩, hx⟩, hz⟩ := hpre
  have hsz := hz.weights hw
  suffices key : Calls Tryd.prog 3 i.args (w.forCall tape i) fun e W' => ∃ v, e = .returned v ∧ (Rows.sendPlaysSpec).post enc Tryd.prog Tryd.f3 false true false false (w.forCall tape i) i.args v W' by
    refine key.mono fun e W' ⟨v, he, hp⟩ => ?_
    subst he
    exact ChangeSpec.post_blind hp
  have hW := DataW.Whole.of_heap (w' := w.forCall tape i) (by rfl) hw
  have hL : laidMetH Tryd.prog laidL (w.forCall tape i) := hx.of_heap (by rfl)
  have hval : ∀ (j : Nat) t v, Tryd.f3.params[j]? = some t → i.args[j]? = some v → Value.okWide Tryd.prog (w.forCall tape i) .any w.heap.size t v := hval0
  clear hx hw
  generalize w.forCall tape i = W at *
  generalize w.heap.size = base at *
  obtain ⟨blks, args, vrs⟩ := i
  dsimp only at hW hval ⊢
  have hW' := hW
  obtain ⟨p, q, hA0, hV, rfl, hfz, hnd⟩ := hW
  have hA : DataW.TrodAll enc Tryd.prog W 0 (fun _ => true) true Tryd.f3.params.toList args.toList ds p := hA0
  rw [Tryd.params3] at hA hval hsz
  obtain ⟨v0, vs0, d0, ds0, p0, q0, hargs, rfl, rfl, h0, r0⟩ := trodAll_cons hA
  obtain ⟨v1, vs1, d1, ds1, p1, q1, rfl, rfl, rfl, h1, r1⟩ := trodAll_cons r0
  obtain ⟨v2, vs2, d2, ds2, p2, q2, rfl, rfl, rfl, h2, r2⟩ := trodAll_cons r1
  obtain ⟨v3, vs3, d3, ds3, p3, q3, rfl, rfl, rfl, h3, r3⟩ := trodAll_cons r2
  obtain ⟨v4, vs4, d4, ds4, p4, q4, rfl, rfl, rfl, h4, r4⟩ := trodAll_cons r3
  obtain ⟨v5, vs5, d5, ds5, p5, q5, rfl, rfl, rfl, h5, r5⟩ := trodAll_cons r4
  obtain ⟨rfl, rfl, rfl⟩ := trodAll_nil r5
  obtain rfl : args = #[v0, v1, v2, v3, v4, v5] := by cases args; simp_all
  obtain ⟨rfl, rfl⟩ := trodVars_none hV
  have hlt0 : ∀ x ∈ p0, x.block < W.heap.size := fun x hx => hW'.lt x (by simp [hx])
  obtain ⟨x0, hr0, hw0, hft0⟩ := open_arg (T := T0) (n := 12) (by kernel_rfl) (hval 0 _ v0 rfl rfl) h0
  have hfit0 := hft0 140737488351232 (fun k hk => (show k ≤ reachBytes from of_decide_eq_true (List.all_eq_true.1 hsz k (DataW.weights_mem_each (j := 0) rfl rfl k hk))))
  have hlt1 : ∀ x ∈ p1, x.block < W.heap.size := fun x hx => hW'.lt x (by simp [hx])
  obtain ⟨x1, hr1, hw1, hft1⟩ := open_arg (T := T1) (n := 12) (by kernel_rfl) (hval 1 _ v1 rfl rfl) h1
  have hfit1 := hft1 140737488351232 (fun k hk => (show k ≤ reachBytes from of_decide_eq_true (List.all_eq_true.1 hsz k (DataW.weights_mem_each (j := 1) rfl rfl k hk))))
  have hlt2 : ∀ x ∈ p2, x.block < W.heap.size := fun x hx => hW'.lt x (by simp [hx])
  obtain ⟨x2, hr2, hw2, hft2⟩ := open_arg (T := T2) (n := 12) (by kernel_rfl) (hval 2 _ v2 rfl rfl) h2
  have hfit2 := hft2 140737488351232 (fun k hk => (show k ≤ reachBytes from of_decide_eq_true (List.all_eq_true.1 hsz k (DataW.weights_mem_each (j := 2) rfl rfl k hk))))
  have hlt3 : ∀ x ∈ p3, x.block < W.heap.size := fun x hx => hW'.lt x (by simp [hx])
  obtain ⟨x3, hr3, hw3, hft3⟩ := open_arg (T := T3) (n := 12) (by kernel_rfl) (hval 3 _ v3 rfl rfl) h3
  have hfit3 := hft3 140737488351232 (fun k hk => (show k ≤ reachBytes from of_decide_eq_true (List.all_eq_true.1 hsz k (DataW.weights_mem_each (j := 3) rfl rfl k hk))))
  have hlt4 : ∀ x ∈ p4, x.block < W.heap.size := fun x hx => hW'.lt x (by simp [hx])
  obtain ⟨x4, hr4, hw4, hft4⟩ := open_arg (T := T4) (n := 12) (by kernel_rfl) (hval 4 _ v4 rfl rfl) h4
  have hfit4 := hft4 140737488351232 (fun k hk => (show k ≤ reachBytes from of_decide_eq_true (List.all_eq_true.1 hsz k (DataW.weights_mem_each (j := 4) rfl rfl k hk))))
  have hlt5 : ∀ x ∈ p5, x.block < W.heap.size := fun x hx => hW'.lt x (by simp [hx])
  obtain ⟨x5, hr5, hw5, hft5⟩ := open_arg (T := T5) (n := 12) (by kernel_rfl) (hval 5 _ v5 rfl rfl) h5
  have hfit5 := hft5 140737488351232 (fun k hk => (show k ≤ reachBytes from of_decide_eq_true (List.all_eq_true.1 hsz k (DataW.weights_mem_each (j := 5) rfl rfl k hk))))
  refine (adequate (law W hsh hL x0 hw0 hfit0 x1 hw1 hfit1 x2 hw2 hfit2 x3 hw3 hfit3 x4 hw4 hfit4 x5 hw5 hfit5) (.cons hr0 (.cons hr1 (.cons hr2 (.cons hr3 (.cons hr4 (.cons hr5 .nil))))))).mono fun e W' ⟨he, bel⟩ => ?_
  subst he
  exact ⟨_, rfl, _, _, _, [], _, [], hW', trodAll_mk1 (shut_bool Tryd.underlying4 _), (trodAll_cons_mk (Below.trod laidOut (by kernel_rfl) (of_decide_eq_true (by kernel_rfl)) h0 bel hlt0) (trodAll_cons_mk (Below.trod laidOut (by kernel_rfl) (of_decide_eq_true (by kernel_rfl)) h1 bel hlt1) (trodAll_cons_mk (Below.trod laidOut (by kernel_rfl) (of_decide_eq_true (by kernel_rfl)) h2 bel hlt2) (trodAll_cons_mk (Below.trod laidOut (by kernel_rfl) (of_decide_eq_true (by kernel_rfl)) h3 bel hlt3) (trodAll_cons_mk (Below.trod laidOut (by kernel_rfl) (of_decide_eq_true (by kernel_rfl)) h4 bel hlt4) (trodAll_cons_mk (Below.trod laidOut (by kernel_rfl) (of_decide_eq_true (by kernel_rfl)) h5 bel hlt5) trodAll_mk0)))))), rfl, bel.frame _, fun h => by cases h⟩
theorem over (law : ∀ (W : World), W.ShapedOpen Tryd.prog → laidMetH Tryd.prog laidL W → ∀ x0 : T0.D, T0.wf x0 → T0.fit 140737488351232 x0 → ∀ x1 : T1.D, T1.wf x1 → T1.fit 140737488351232 x1 → ∀ x2 : T2.D, T2.wf x2 → T2.fit 140737488351232 x2 → ∀ x3 : T3.D, T3.wf x3 → T3.fit 140737488351232 x3 → ∀ x4 : T4.D, T4.wf x4 → T4.fit 140737488351232 x4 → ∀ x5 : T5.D, T5.wf x5 → T5.fit 140737488351232 x5 → Abs.Call Tryd.prog W 3 [T0.val x0, T1.val x1, T2.val x2, T3.val x3, T4.val x4, T5.val x5] AH.start fun v _ => v = .v (.bool true)) : Rows.sendPlaysRow.holds Tryd.pinned (OpenSpec.ofChange Rows.sendPlaysSpec) :=
  OpenClaim.holds_of_wide 3 Tryd.f3 rfl rfl rfl rfl rfl rfl rfl ⟨rfl, rfl, rfl, rfl, rfl⟩ rfl rfl rfl rfl rfl (by kernel_rfl) Tryd.func3 (by kernel_rfl)
    (of_decide_eq_true (by kernel_rfl)) (by unfold Func.isWrapper; first | (rw [if_pos (by decide +kernel)]; kernel_rfl) | (rw [if_neg (by decide +kernel)]; exact ⟨rfl, rfl⟩))
    (fun os started H enc _ => lifted law os started H enc)
theorem card (law : ∀ (W : World), W.ShapedOpen Tryd.prog → laidMetH Tryd.prog laidL W → ∀ x0 : T0.D, T0.wf x0 → T0.fit 140737488351232 x0 → ∀ x1 : T1.D, T1.wf x1 → T1.fit 140737488351232 x1 → ∀ x2 : T2.D, T2.wf x2 → T2.fit 140737488351232 x2 → ∀ x3 : T3.D, T3.wf x3 → T3.fit 140737488351232 x3 → ∀ x4 : T4.D, T4.wf x4 → T4.fit 140737488351232 x4 → ∀ x5 : T5.D, T5.wf x5 → T5.fit 140737488351232 x5 → Abs.Call Tryd.prog W 3 [T0.val x0, T1.val x1, T2.val x2, T3.val x3, T4.val x4, T5.val x5] AH.start fun v _ => v = .v (.bool true)) : Rows.SendPlaysCardSaid :=
  Claim7.holds_tied_plain_at .later [] [.data, .data, .data, .sentinel, .sentinel] true (true, "acf9997c978a5c7f74a9ff95f7b0ba6f4e7d0899b33889babc01de850da953dd") true
    (over law) (fun _ h => by cases h) (by kernel_rfl) (fun _ h => by cases h) sendPlays_row_tie rfl ⟨rfl, rfl⟩ (by kernel_rfl) rfl
    (fun f fn hf hfn => by
      obtain rfl : f = 3 := Option.some.inj ((show Tryd.prog.funcNamed "estafette/estafettelaw07.SendPlays" = some 3 by kernel_rfl).symm.trans hf) |>.symm
      obtain rfl : fn = Tryd.f3 := (Option.some.inj (Tryd.func3.symm.trans hfn)).symm
      exact ⟨by kernel_rfl, fun j t ht => by
        have hall : (Tryd.f3.params.toList.all fun u => !Tryd.prog.wantsStandIn u) = true := by kernel_rfl
        have hm : t ∈ Tryd.f3.params.toList := by simpa using Array.mem_of_getElem? ht
        exact (show Tryd.prog.wantsStandIn t = false by simpa using List.all_eq_true.1 hall t hm)⟩)
    (by kernel_rfl)
theorem proved : Rows.SendPlaysCardSaid := card @Go.Abs.F.law_SendPlays
end Go.Proofs.YtlmgpkopcgcbgaaDoor.sendPlays
namespace Go.Proofs.YtlmgpkopcgcbgaaDoor
/-- The card, under a short name, for the claim. -/
theorem sendPlays_holds : Rows.SendPlaysCardSaid := sendPlays.proved
#print axioms sendPlays_holds
end Go.Proofs.YtlmgpkopcgcbgaaDoor
