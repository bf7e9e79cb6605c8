/- What the proof needs, part 13: strconv.Itoa and strconv.Atoi by the shelf's contracts; worlds that have grown. -/
import Derived.Test.YtlmgpkopcgcbgaaGreatDoorQServeParts12
import Derived.Test.YtlmgpkopcgcbgaaGreatDoorShelf
import Derived.Test.YtlmgpkopcgcbgaaGreatDoorRows
import Derived.Lib.AppendIntMem
import Derived.Lib.AtoiErrMem
import Derived.LaidSub
import Derived.LaidHandle
import Derived.MakeChecks
import Derived.ProofKit
import Derived.Stop.LaidErr
/- strconv.Itoa and strconv.Atoi by the shelf's contracts; worlds that have grown. -/
set_option linter.unusedVariables false
namespace Go.Abs
open Go Go.RowKit
/-- The world has grown; nothing of it has turned. -/
theorem WR.grown {w0 : World} {Γ : Con} {h : AH} {w w' : World} (H : WR w0 Γ h w) (hb : Below w.heap.size w w') : WR w0 Γ h w' where
  below := ⟨hb.os.trans H.below.os, hb.tape.trans H.below.tape, hb.output.trans H.below.output, Nat.le_trans H.below.size hb.size, fun k hk => (hb.block k (Nat.lt_of_lt_of_le hk H.below.size)).trans (H.below.block k hk)⟩
  fcell := fun hx => (World.cell?_of_block (hb.block _ (H.flt hx))).trans (H.fcell hx)
  obj := fun ho => by
    obtain ⟨b, h1, h2, h3, h4⟩ := H.obj ho
    exact ⟨b, h1, h2, h3.at_ (hb.block _ h3.lt), h4⟩
  inj := H.inj
  rlt := fun hi => ⟨(H.rlt hi).1, Nat.lt_of_lt_of_le (H.rlt hi).2 hb.size⟩
  tok := fun ht => by
    obtain ⟨h1, ⟨h2, vs, e, fr, h3, h4, h5⟩, h6⟩ := H.tok ht
    exact ⟨h1, ⟨h2, vs, e, fr, (hb.block _ (size_pos_of h3)).trans h3, h4, h5⟩, h6⟩
  tinj := H.tinj
  tnew := H.tnew
/-- A function that gives a plain value and leaves what was there. -/
theorem Call.plain {P : Program} {w0 : World} {f : FuncId} {args : List AV} {h : AH} {x : Value} {vs : List Value} (hcall : callable P f) (ha : args = vs.map AV.v) (hc : ∀ (Γ : Con) (w : World), WR w0 Γ h w → Calls P f vs.toArray w fun e w' => e = .returned x ∧ Below w.heap.size w w') : Call P w0 f args h (fun v h' => v = .v x ∧ h' = h) := by
  refine ⟨hcall, fun Γ w us H hv => ?_⟩
  have hu : us = vs := by
    subst ha
    have hl := hv.len
    simp only [List.length_map] at hl
    refine List.ext_getElem hl fun i h1 h2 => ?_
    have := hv.at_ i (by simpa using h2) h1
    simp only [List.getElem_map] at this
    exact this.inv_v
  subst hu
  refine (hc Γ w H).mono fun e w' hh => ?_
  obtain ⟨rfl, hb⟩ := hh
  exact ⟨_, Γ, _, h, rfl, .refl Γ, .v _, H.grown hb, rfl, rfl⟩
/-- A function that gives a value that needs no memory of the state, and leaves what was there. -/
theorem Call.grows {P : Program} {w0 : World} {f : FuncId} {args : List AV} {h : AH} {vs : List Value} {Q : AV → Prop} (hcall : callable P f) (ha : args = vs.map AV.v) (hc : ∀ (Γ : Con) (w : World), WR w0 Γ h w → Calls P f vs.toArray w fun e w' => ∃ x v, e = .returned x ∧ (∀ Γ', RV Γ' v x) ∧ Q v ∧ Below w.heap.size w w') : Call P w0 f args h (fun v h' => Q v ∧ h' = h) := by
  refine ⟨hcall, fun Γ w us H hv => ?_⟩
  have hu : us = vs := by
    subst ha
    have hl := hv.len
    simp only [List.length_map] at hl
    refine List.ext_getElem hl fun i h1 h2 => ?_
    have := hv.at_ i (by simpa using h2) h1
    simp only [List.getElem_map] at this
    exact this.inv_v
  subst hu
  refine (hc Γ w H).mono fun e w' hh => ?_
  obtain ⟨x, v, rfl, hx, hq, hb⟩ := hh
  exact ⟨_, Γ, _, h, rfl, .refl Γ, hx Γ, H.grown hb, hq, rfl⟩
end Go.Abs
namespace Go.Abs.F
open Go Go.Abs
variable {w0 : World}
theorem decDigits_udecS (n : Nat) : Lib.decDigits n = udecS n := by
  induction n using Nat.strongRecOn with
  | _ n ih =>
    rw [Lib.decDigits, udecS]
    split
    · rfl
    · rw [ih (n / 10) (by omega)]
abbrev PowTab (w : World) : Prop := Lib.TabIs P w "internal/strconv.uint64pow10" .u64 Lib.pow10Tab
theorem PowTab.below {w0 w : World} {Γ : Con} {h : AH} (hT : PowTab w0) (H : WR w0 Γ h w) : PowTab w := by
  unfold PowTab Lib.TabIs at hT ⊢
  unfold World.var? at hT ⊢
  cases hg : P.globalNamed "internal/strconv.uint64pow10" with
  | none => rw [hg] at hT; cases hT
  | some g =>
    rw [hg] at hT
    simp only [Option.bind_some] at hT ⊢
    have hlt : g < w0.heap.size := by
      rcases Nat.lt_or_ge g w0.heap.size with h1 | h1
      · exact h1
      · rw [Array.getElem?_eq_none h1] at hT
        cases hT
    rw [H.below.block g hlt]
    exact hT
theorem itoa_dec (n : Int) : Lib.itoa n = decS n := by
  rw [Lib.itoa, decS]
  split
  · rw [decDigits_udecS]; congr 2; omega
  · rw [decDigits_udecS]
theorem itoa_call (hT : PowTab w0) (n : Int) (h : AH) (h0 : -9223372036854775808 ≤ n) (h1 : n ≤ 9223372036854775807) : Call P w0 strconv_Itoa [.v (.int .i64 n)] h (fun v h' => v = .v (.string (bs (decS n))) ∧ h' = h) := by
  refine Call.plain (vs := [.int .i64 n]) ⟨_, Go.Proofs.Tryz.func73, by kernel_rfl, by kernel_rfl⟩ rfl fun Γ w H => ?_
  refine (Go.Proofs.Tryz.strconv_Itoa n h0 h1 w (hT.below H)).mono fun e w' hh => ?_
  obtain ⟨rfl, k, os, rfl⟩ := hh
  refine ⟨?_, Lib.below_grow _ _ (Nat.le_refl _) k os⟩
  rw [itoa_dec]
  rfl
/-! the errors' variables -/
theorem var_below {w : World} {n : String} {cs : Array Value} {Γ : Con} {h : AH} (hT : w0.var? P n = some cs) (H : WR w0 Γ h w) : w.var? P n = some cs := by
  unfold World.var? at hT ⊢
  cases hg : P.globalNamed n with
  | none => rw [hg] at hT; cases hT
  | some g =>
    rw [hg] at hT
    simp only [Option.bind_some] at hT ⊢
    have hlt : g < w0.heap.size := by
      rcases Nat.lt_or_ge g w0.heap.size with h1 | h1
      · exact h1
      · rw [Array.getElem?_eq_none h1] at hT
        cases hT
    rw [H.below.block g hlt]
    exact hT
def ErrVars (w : World) : Prop := (∃ tp p, w.var? P "strconv.ErrSyntax" = some #[.iface tp p]) ∧ ∃ tp p, w.var? P "strconv.ErrRange" = some #[.iface tp p]
theorem errVar_of {P : Program} {n nm : String} {d : DataW Unit} {r : List (String × DataW Unit)} {W : World} {g : Nat} {ti : TypeId} {ms : Array (String × TypeId)} (h : laidMet P ((n, .iface nm d) :: r) W)
    (hg : P.globalNamed n = some g) (ht : (P.globals[g]?).map (·.type) = some ti) (hi : P.underlying ti = some (.interface ms)) : ∃ tp p, W.var? P n = some #[.iface tp p] := by
  obtain ⟨ps, ⟨g0, t0, cs0, f0, p0, q0, hg0, ht0, hv0, hd0, _, e0⟩, _, hrows⟩ := h
  obtain rfl := Option.some.inj (hg.symm.trans hg0)
  obtain rfl := Option.some.inj (ht.symm.trans ht0)
  subst e0
  obtain ⟨l0⟩ := cs0
  obtain ⟨f', u, v, hcs, _, _⟩ := iface_of_trod hi hd0
  have hl : l0 = [.iface u v] := hcs
  exact ⟨u, v, by rw [hv0, hl]⟩
theorem errSyntax_of {nm : String} {d : DataW Unit} {l : List (String × DataW Unit)} {W : World} (hL : laidMetH P l W) (hf : l.filter (fun x => x.1 == "strconv.ErrSyntax") = [("strconv.ErrSyntax", .iface nm d)]) (hp : ([("strconv.ErrSyntax", DataW.iface nm d)].all fun x => x.2.handleName?.isNone) = true) : ∃ tp p, W.var? P "strconv.ErrSyntax" = some #[.iface tp p] := by
  have h1 := laidMetH.filter (fun x => x.1 == "strconv.ErrSyntax") hL
  rw [hf, MakeChecks.laidMetH_plain _ _ _ hp] at h1
  exact errVar_of (g := 6) (ti := 103) h1 (by kernel_rfl) (by kernel_rfl) Go.Proofs.Tryz.underlying103
theorem errRange_of {nm : String} {d : DataW Unit} {l : List (String × DataW Unit)} {W : World} (hL : laidMetH P l W) (hf : l.filter (fun x => x.1 == "strconv.ErrRange") = [("strconv.ErrRange", .iface nm d)]) (hp : ([("strconv.ErrRange", DataW.iface nm d)].all fun x => x.2.handleName?.isNone) = true) : ∃ tp p, W.var? P "strconv.ErrRange" = some #[.iface tp p] := by
  have h1 := laidMetH.filter (fun x => x.1 == "strconv.ErrRange") hL
  rw [hf, MakeChecks.laidMetH_plain _ _ _ hp] at h1
  exact errVar_of (g := 7) (ti := 103) h1 (by kernel_rfl) (by kernel_rfl) Go.Proofs.Tryz.underlying103
/-- What Atoi gives: the number and no error, or an error. -/
def AtoiP (s : List UInt8) (v : AV) : Prop :=
  (∃ n, Lib.atoiAll s = .ok n ∧ v = .tup [.v (.int .i64 n), .v .nilIface]) ∨ ((∀ n, Lib.atoiAll s ≠ .ok n) ∧ ∃ k te, v = .tup [.v (.int .i64 k), .iface te (.lptr [] 0)])
theorem rv_err {Γ : Con} {k : Int} {te : TypeId} {b : Nat} : RV Γ (.tup [.v (.int .i64 k), .iface te (.lptr [] 0)]) (.tuple #[.int .i64 k, .iface te (.pointer (some ⟨b, 0, none⟩))]) := by
  refine .tup rfl fun i hi hi' => ?_
  match i, hi with
  | 0, _ => exact .v _
  | 1, _ => exact .iface (.lptr (o := 0) (u := fun _ => undef) (fun j hj => absurd hj (Nat.not_lt_zero j)) (fun j hj => absurd hj (Nat.not_lt_zero j)) (fun j hj => absurd hj (Nat.not_lt_zero j)))
theorem atoiA_call (hE : ErrVars w0) (s : List UInt8) (h : AH) (hl : s.length ≤ 140737488355328) : Call P w0 strconv_Atoi [.v (.string (bs s))] h (fun v h' => AtoiP s v ∧ h' = h) := by
  have hsz : (bs s).size = s.length := bs_size s
  have hdl : (bs s).data.toList = s := by simp [bs]
  refine Call.grows (vs := [.string (bs s)]) ⟨_, Go.Proofs.Tryz.func127, by kernel_rfl, by kernel_rfl⟩ rfl fun Γ w H => ?_
  obtain ⟨⟨tp, p, hv1⟩, tq, q, hv2⟩ := hE
  cases hA : Lib.atoiAll s with
  | ok n =>
    refine (Go.Proofs.Tryz.strconv_Atoi_ok (bs s) (by omega) n (by rw [hdl]; exact hA) w).mono fun e w' hh => ?_
    obtain ⟨rfl, hb⟩ := hh
    refine ⟨_, _, rfl, fun Γ' => ?_, .inl ⟨n, hA, rfl⟩, ?_⟩
    · refine .tup rfl fun i hi hi' => ?_
      match i, hi with
      | 0, _ => exact .v _
      | 1, _ => exact .v _
    · rcases hb with rfl | ⟨t, rfl⟩
      · exact .refl _ _
      · exact Lib.bytesWorld_below _ _ _
  | range =>
    refine (Go.Proofs.Any.strconv_Atoi_range_var Go.Proofs.Tryz.laysC172 (bs s) (by omega) (by rw [hdl]; exact hA) tq q w (var_below hv2 H)).mono fun e w' hh => ?_
    obtain ⟨N, rfl, _, _, hb⟩ := hh
    exact ⟨_, _, rfl, fun Γ' => rv_err, .inr ⟨fun n => (by rw [hA]; intro h; cases h), _, _, rfl⟩, hb⟩
  | _ =>
    refine (Go.Proofs.Any.strconv_Atoi_syntax_var Go.Proofs.Tryz.laysC172 (bs s) (by omega) (by rw [hdl]; exact hA) tp p w (var_below hv1 H)).mono fun e w' hh => ?_
    obtain ⟨N, rfl, _, _, hb⟩ := hh
    exact ⟨_, _, rfl, fun Γ' => rv_err, .inr ⟨fun n => (by rw [hA]; intro h; cases h), _, _, rfl⟩, hb⟩
theorem powTab_of {l : List (String × DataW Unit)} {W : World} (hL : laidMetH P l W) (hf : l.filter (fun x => x.1 == "internal/strconv.uint64pow10") = [("internal/strconv.uint64pow10", Lib.tabData .u64 Lib.pow10Tab)]) : PowTab W := by
  have h1 := laidMetH.filter (fun x => x.1 == "internal/strconv.uint64pow10") hL
  rw [hf, MakeChecks.laidMetH_plain _ _ _ (by kernel_rfl)] at h1
  exact Lib.tabIs_of_head (g := 3) (t := 144) (e := 65) (n := 20) (by kernel_rfl) (by kernel_rfl) (by kernel_rfl) (by kernel_rfl) (by kernel_rfl) (by kernel_rfl) h1
end Go.Abs.F
