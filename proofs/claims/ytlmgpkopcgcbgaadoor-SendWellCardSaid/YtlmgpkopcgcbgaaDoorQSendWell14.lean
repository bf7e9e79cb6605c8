/- What the proof needs, part 14: Library: bytes.Cut at the end of a line, bytes.Clone, bytes.IndexByte; Layer 2: a reader of lines; Layer 7: a session's object; what it says; its end; Layer 7: what follows a reply; Layer 7: a reply is taken; Layer 7: a reply is taken; the hop is gone; Layer 7: what goes next, whether it is over, the codes; Layer 7: a line of a reply; Layer 7: what stays in a session; Layer 7: bytes come; Layer 7: bytes come: the session's Feed. -/
import Derived.Test.YtlmgpkopcgcbgaaDoorQSendWell12
import Derived.Test.YtlmgpkopcgcbgaaDoorQSendWell11
import Derived.Test.YtlmgpkopcgcbgaaDoorQSendWell13
import Derived.Shelf.Bytes.SlCut
import Derived.Shelf.Bytes.SlIndexAt
import Derived.Shelf.Bytes.IndexByte
import Derived.WalkSmall
/- Library: bytes.Cut at the end of a line, bytes.Clone, bytes.IndexByte. -/
namespace Go.Abs.F
open Go Go.Abs
set_option maxRecDepth 10000
set_option maxHeartbeats 20000000
set_option linter.unusedSimpArgs false
set_option linter.unusedVariables false
variable {w0 : World}
/-- Bytes at a place that never turn are a list. -/
theorem bsub {Γ : Con} {b o c : Nat} {l : L8} (hF : ∀ (i : Nat) (hi : i < l.length), Γ.F b (o + i) = some (.int .u8 (l[i].toNat : Int))) (hc : l.length ≤ c) : RV Γ (.list 1 (brows l) .no) (.slice (some ⟨b, o, none⟩) l.length c) := by
  have hl := brows_len l
  have := RV.mk_list (Γ := Γ) (sz := 1) (rows := brows l) (tok := .no) (b := b) (o := o) (c := c) (us := l.map fun x => .int .u8 (x.toNat : Int)) (by rw [hl]; exact hc)
    (fun r hr => by
      simp only [brows, List.mem_map] at hr
      obtain ⟨x, _, rfl⟩ := hr
      rfl)
    ⟨by rw [brows_flat]; simp [bcel], fun i h1 h2 => by
      simp only [brows_flat, bcel, List.getElem_map]
      exact .v _, fun x hx => by
      simp only [List.mem_map] at hx
      obtain ⟨y, _, rfl⟩ := hx
      rfl⟩
    (fun k hk => by
      rw [List.getElem_map]
      exact hF k (by simpa using hk)) trivial
  rwa [hl] at this
/-- A list of bytes is a slice; its bytes never turn. -/
theorem binv {Γ : Con} {l : L8} {tok : Tok} {y : Value} (h : RV Γ (.list 1 (brows l) tok) y) : (∃ base, y = .slice base 0 0 ∧ l = []) ∨ ∃ b o c, y = .slice (some ⟨b, o, none⟩) l.length c ∧ l.length ≤ c ∧ ∀ (i : Nat) (hi : i < l.length), Γ.F b (o + i) = some (.int .u8 (l[i].toNat : Int)) := by
  have hl := brows_len l
  rcases h.inv_list with ⟨base, rfl, hr, _⟩ | ⟨b, o, c, us, rfl, hc, hsz, hcs, hul, hF, _⟩
  · rw [hr] at hl
    exact .inl ⟨base, rfl, List.eq_nil_of_length_eq_zero hl.symm⟩
  · rw [hl] at hc
    refine .inr ⟨b, o, c, by rw [hl], hc, fun i hi => ?_⟩
    have h1 : i < us.length := by rw [hul, hl]; omega
    have h2 : i < (brows l).flatten.length := by rw [brows_flat, bcel_len]; exact hi
    rw [hF i h1]
    have := hcs.at_ i h2 h1
    simp only [brows_flat, bcel, List.getElem_map] at this
    rw [this.inv_v]
def cutV (w : L8) : AV := match cutL w with
  | none => .tup [.list 1 (brows w) .no, .list 1 [] .full, .v (.bool false)]
  | some (a, r) => .tup [.list 1 (brows a) .no, .list 1 (brows r) .no, .v (.bool true)]
theorem index_cut : ∀ w : L8, Lib.index w [13, 10] = match cutL w with
    | none => -1
    | some (a, _) => (a.length : Int)
  | [] => rfl
  | [x] => by
    have : ([13, 10] : L8).isPrefixOf [x] = false := by simp [List.isPrefixOf]
    rw [Lib.index, this]
    rfl
  | x :: y :: r => by
    rw [Lib.index, cutL]
    by_cases h : x = 13 ∧ y = 10
    · obtain ⟨rfl, rfl⟩ := h
      rw [if_pos (show ([13, 10] : L8).isPrefixOf (13 :: 10 :: r) = true by simp [List.isPrefixOf]), if_pos ⟨rfl, rfl⟩]
      rfl
    · have hp : ([13, 10] : L8).isPrefixOf (x :: y :: r) = false := by
        by_cases h1 : x = 13
        · have h2 : ¬ y = 10 := fun e => h ⟨h1, e⟩
          have h3 : ((10 : UInt8) == y) = false := by simpa using fun e => h2 (Eq.symm e)
          simp [List.isPrefixOf, h3]
        · have h3 : ((13 : UInt8) == x) = false := by simpa using fun e => h1 (Eq.symm e)
          simp [List.isPrefixOf, h3]
      rw [hp, if_neg h, if_neg (by simp), index_cut (y :: r)]
      cases cutL (y :: r) with
      | none => rfl
      | some p =>
        have : (((p.1.length : Nat) : Int) == -1) = false := by simp
        simp [this]
theorem bytesOf_nat (l : L8) : Lib.bytesOf (l.map fun b => (b.toNat : Int)) = l := by
  rw [Lib.bytesOf, List.map_map]
  conv => rhs; rw [← List.map_id l]
  exact List.map_congr_left fun b _ => u8_of b
theorem WR.drewN {Γ : Con} {h : AH} {w : World} (H : WR w0 Γ h w) (q : Nat) : WR w0 Γ h (w.drewN q) := H.grown (below_drewN (.refl _ _) q)
/-- internal/bytealg.MaxLen holds some number. -/
def MaxLen (w : World) : Prop := ∃ m, w.cell? ⟨0, 0, none⟩ = some (.int .i64 m)
theorem MaxLen.below {w0 w : World} {Γ : Con} {h : AH} (hM : MaxLen w0) (H : WR w0 Γ h w) : MaxLen w := by
  obtain ⟨m, hm⟩ := hM
  refine ⟨m, ?_⟩
  have hlt := World.block_lt_of_cell? w0 _ hm
  exact (World.cell?_of_block (H.below.block _ hlt)).trans hm
theorem bytesIn_of {w : World} {Γ : Con} {h : AH} (H : WR w0 Γ h w) {l : L8} {b o : Nat} (hF : ∀ (i : Nat) (hi : i < l.length), Γ.F b (o + i) = some (.int .u8 (l[i].toNat : Int))) : Lib.BytesIn w (some ⟨b, o, none⟩) l.length (l.map fun b => (b.toNat : Int)) := fun _ =>
  ⟨b, o, rfl, fun i hi => by
    rw [H.fcell (hF i hi)]
    simp [List.getD, List.getElem?_eq_getElem hi]⟩
theorem bcut_call (hM : MaxLen w0) (l : L8) (tok t2 : Tok) (h : AH) (hl : l.length < 4294967281) : Call P w0 bytes_Cut [.list 1 (brows l) tok, .list 1 (brows [13, 10]) t2] h (fun v h' => v = cutV l ∧ h' = h) := by
  refine ⟨⟨_, Go.Proofs.Tryd.func42, by kernel_rfl, by kernel_rfl⟩, fun Γ w us H hv => ?_⟩
  obtain ⟨y1, y2, rfl⟩ : ∃ y1 y2, us = [y1, y2] := by
    have hl := hv.len
    match us, hl with
    | [y1, y2], _ => exact ⟨y1, y2, rfl⟩
  have r1 := hv.at_ 0 (by simp) (by simp)
  have r2 := hv.at_ 1 (by simp) (by simp)
  simp only [List.getElem_cons_zero, List.getElem_cons_succ] at r1 r2
  obtain ⟨m, hm⟩ := hM.below H
  have hr : ∀ (l : L8), ∀ x ∈ l.map (fun b => (b.toNat : Int)), 0 ≤ x ∧ x < 256 := fun l x hx => by
    obtain ⟨b, _, rfl⟩ := List.mem_map.1 hx
    have := b.toNat_lt
    omega
  rcases binv r2 with ⟨_, _, h0⟩ | ⟨b2, o2, c2, rfl, hc2, hF2⟩
  · cases h0
  have hi := index_cut l
  have htwo : Lib.bytesOf (([13, 10] : L8).map fun b => (b.toNat : Int)) = [13, 10] := bytesOf_nat _
  rcases binv r1 with ⟨base, rfl, rfl⟩ | ⟨b1, o1, c1, rfl, hc1, hF1⟩
  · refine (Go.Proofs.Any.bytes_Cut_all Go.Proofs.Tryd.laysCut base (some ⟨b2, o2, none⟩) 0 0 2 c2 [] (([13, 10] : L8).map fun b => (b.toNat : Int)) m w rfl rfl (by simp) (hr _) (.nil w base []) (bytesIn_of H hF2) (fun _ => rfl) (Nat.le_refl _) (by omega) (by omega) hm).mono fun e w' hh => ?_
    obtain ⟨rfl, q, rfl⟩ := hh
    rw [htwo, show Lib.index (Lib.bytesOf []) [13, 10] = -1 from rfl]
    refine ⟨_, Γ, _, h, rfl, .refl Γ, ?_, WR.drewN H q, rfl, rfl⟩
    show RV Γ (.tup [.list 1 [] .no, .list 1 [] .full, .v (.bool false)]) (.tuple #[.slice base 0 0, .slice none 0 0, .bool false])
    refine .tup rfl fun i h1 h2 => ?_
    match i, h1 with
    | 0, _ => exact .niln
    | 1, _ => exact .nilf
    | 2, _ => exact .v _
  · refine (Go.Proofs.Any.bytes_Cut_all Go.Proofs.Tryd.laysCut (some ⟨b1, o1, none⟩) (some ⟨b2, o2, none⟩) l.length c1 2 c2 (l.map fun b => (b.toNat : Int)) (([13, 10] : L8).map fun b => (b.toNat : Int)) m w (by simp) rfl (hr _) (hr _) (bytesIn_of H hF1) (bytesIn_of H hF2) (fun e => by cases e) hc1 hl (by omega) hm).mono fun e w' hh => ?_
    obtain ⟨rfl, q, rfl⟩ := hh
    rw [htwo, bytesOf_nat, hi]
    unfold cutV
    cases hq : cutL l with
    | none =>
      refine ⟨_, Γ, _, h, rfl, .refl Γ, ?_, WR.drewN H q, rfl, rfl⟩
      show RV Γ (.tup [.list 1 (brows l) .no, .list 1 [] .full, .v (.bool false)]) (.tuple #[.slice (some ⟨b1, o1, none⟩) l.length c1, .slice none 0 0, .bool false])
      refine .tup rfl fun i h1 h2 => ?_
      match i, h1 with
      | 0, _ => exact bsub hF1 hc1
      | 1, _ => exact .nilf
      | 2, _ => exact .v _
    | some p =>
      obtain ⟨a, r⟩ := p
      have hs := cutL_some hq
      have hlen := cutL_len hq
      refine ⟨_, Γ, _, h, rfl, .refl Γ, ?_, WR.drewN H q, rfl, rfl⟩
      have hcv : Lib.cutV (some ⟨b1, o1, none⟩) l.length c1 2 ((a.length : Nat) : Int) = .tuple #[.slice (some ⟨b1, o1, none⟩) a.length c1, Lib.fromV (some ⟨b1, o1, none⟩) l.length c1 (a.length + 2), .bool true] := by
        unfold Lib.cutV
        rw [if_pos (by omega)]
        rfl
      show RV Γ (.tup [.list 1 (brows a) .no, .list 1 (brows r) .no, .v (.bool true)]) (Lib.cutV (some ⟨b1, o1, none⟩) l.length c1 2 ((a.length : Nat) : Int))
      rw [hcv]
      have hFa : ∀ (i : Nat) (hi : i < a.length), Γ.F b1 (o1 + i) = some (.int .u8 (a[i].toNat : Int)) := fun i hi => by
        rw [hF1 i (by omega)]
        have : l[i]'(by omega) = a[i] := by simp [hs, List.getElem_append_left, hi]
        rw [this]
      have hFr : ∀ (i : Nat) (hi : i < r.length), Γ.F b1 (o1 + (a.length + 2) + i) = some (.int .u8 (r[i].toNat : Int)) := fun i hi => by
        rw [show o1 + (a.length + 2) + i = o1 + (a.length + 2 + i) by omega, hF1 (a.length + 2 + i) (by omega)]
        have : l[a.length + 2 + i]'(by omega) = r[i] := by
          have e : l = (a ++ [13, 10]) ++ r := by rw [hs]; simp
          have := List.getElem?_append_right (l₁ := a ++ [13, 10]) (l₂ := r) (i := a.length + 2 + i) (by simp)
          rw [← e] at this
          rw [List.getElem?_eq_getElem (by omega)] at this
          have h3 : a.length + 2 + i - (a ++ [13, 10]).length = i := by simp
          rw [h3, List.getElem?_eq_getElem hi] at this
          exact Option.some.inj this
        rw [this]
      refine .tup rfl fun i h1 h2 => ?_
      match i, h1 with
      | 0, _ => exact bsub hFa (by omega)
      | 1, _ =>
        show RV Γ (.list 1 (brows r) .no) (Lib.fromV (some ⟨b1, o1, none⟩) l.length c1 (a.length + 2))
        unfold Lib.fromV
        have hrl : l.length - (a.length + 2) = r.length := by omega
        rw [hrl]
        by_cases hce : c1 = a.length + 2
        · have hr0 : r = [] := List.eq_nil_of_length_eq_zero (by omega)
          subst hr0
          rw [if_pos hce, hce, Nat.sub_self]
          exact .niln
        · rw [if_neg hce]
          exact bsub hFr (by omega)
      | 2, _ => exact .v _
theorem bclone_call (l : L8) (tok : Tok) (R : List Tok) (h : AH) (hT : Toks h R) (hl : l.length ≤ 100000000000) : Call P w0 bytes_Clone [.list 1 (brows l) tok] h (fun v h' => ∃ t', v = .list 1 (brows l) t' ∧ Toks h' (t' :: R) ∧ Ext h h') := by
  cases l with
  | nil =>
    refine ⟨⟨_, Go.Proofs.Tryd.func43, by kernel_rfl, by kernel_rfl⟩, fun Γ w us H hv => ?_⟩
    obtain ⟨y1, rfl⟩ : ∃ y1, us = [y1] := by
      have hl := hv.len
      match us, hl with
      | [y1], _ => exact ⟨y1, rfl⟩
    have r1 := hv.at_ 0 (by simp) (by simp)
    simp only [List.getElem_cons_zero] at r1
    obtain ⟨base, c, rfl⟩ : ∃ base c, y1 = .slice base 0 c := by
      rcases binv r1 with ⟨base, rfl, _⟩ | ⟨b, o, c, rfl, _⟩
      · exact ⟨_, _, rfl⟩
      · exact ⟨_, _, rfl⟩
    refine (Go.Proofs.YtlmgpkopcgcbgaaDoorClz.clone_zero base c w).mono fun e w' hh => ?_
    obtain ⟨⟨b', rfl⟩, hb⟩ := hh
    exact ⟨_, Γ, _, h, rfl, .refl Γ, .nilf, H.grown hb, .full, rfl, hT.full, .refl h⟩
  | cons x l =>
    obtain ⟨t', h2, hap, hT2, h4, h5, h6⟩ := hT.full.app
    have hE : Ext h h2 := by
      obtain ⟨t1, h3, q1, q2, q3, q4, q5, q6⟩ := (show TokU h .full from trivial).app
      have : h3 = h2 := by
        have := q1.symm.trans hap
        simp only [Option.some.injEq, Prod.mk.injEq] at this
        exact this.2
      subst this
      exact Ext.transX (.refl h) q6 (fun _ x => x.elim) (fun t ht => by cases ht)
    have hb : brows (x :: l) = [.v (.int .u8 (x.toNat : Int))] :: brows l := rfl
    have hlen : (brows l).length = l.length := brows_len l
    refine Call.bodyF b_bytes_Clone rfl rfl ?_
    unfold c_bytes_Clone
    rw [hb]
    simp at hl
    repeat' (first
| ((with_reducible apply opsF.op rfl); case hs => first | exact tHT | exact tHS)
| (with_reducible first | apply opsF.nil | apply seqF.nn | apply vcF.seq | apply vcF.region | apply vcF.skip | apply vcF.ret | apply seqF.r)
| ((with_reducible apply opsF.call); case hx => exact tAG)
| ((with_reducible apply vcF.cond); case hx => exact tEV) <;> ((intro hc; try simp only [Int.reduceLT, Int.reduceLE, Int.reduceEq, Int.reduceNe, Int.cast_ofNat_Int, Int.reduceNeg, reduceCtorEq, ne_eq, ge_iff_le, gt_iff_lt, beq_iff_eq, beq_eq_false_iff_ne, bne_iff_ne, bne_eq_false_iff_eq, nrm, *] at hc) <;> try (exfalso; omega))
| ((with_reducible first | apply retF.r | apply retF.nn); case hv => exact tRS))
    all_goals exact ⟨_, rfl, hT2, hE⟩
theorem bidx_call (l : L8) (tok : Tok) (c : UInt8) (h : AH) : Call P w0 bytes_IndexByte [.list 1 (brows l) tok, .v (.int .u8 (c.toNat : Int))] h (fun v h' => v = .v (.int .i64 (Lib.indexByte l c)) ∧ h' = h) := by
  refine ⟨⟨_, Go.Proofs.Tryd.func44, by kernel_rfl, by kernel_rfl⟩, fun Γ w us H hv => ?_⟩
  obtain ⟨y1, y2, rfl⟩ : ∃ y1 y2, us = [y1, y2] := by
    have hl := hv.len
    match us, hl with
    | [y1, y2], _ => exact ⟨y1, y2, rfl⟩
  have r1 := hv.at_ 0 (by simp) (by simp)
  have r2 := hv.at_ 1 (by simp) (by simp)
  simp only [List.getElem_cons_zero, List.getElem_cons_succ] at r1 r2
  rw [r2.inv_v]
  have hcc : ((c.toNat : Int)).toNat.toUInt8 = c := u8_of c
  rcases binv r1 with ⟨base, rfl, rfl⟩ | ⟨b, o, cc, rfl, _, hF⟩
  · cases base with
    | none =>
      refine (Go.Proofs.Tryd.bytes_IndexByte_nil (c.toNat : Int) w).mono fun e w' hh => ?_
      obtain ⟨rfl, rfl⟩ := hh
      exact ⟨_, Γ, _, h, rfl, .refl Γ, .v _, H, rfl, rfl⟩
    | some a =>
      refine (Go.Proofs.Tryd.bytes_IndexByte_at a 0 0 [] (c.toNat : Int) w rfl (fun i hi => by omega)).mono fun e w' hh => ?_
      obtain ⟨rfl, rfl⟩ := hh
      exact ⟨_, Γ, _, h, rfl, .refl Γ, .v _, H, rfl, rfl⟩
  · refine (Go.Proofs.Tryd.bytes_IndexByte_at ⟨b, o, none⟩ l.length cc (l.map fun b => (b.toNat : Int)) (c.toNat : Int) w (by simp) (fun i hi => by
      rw [Go.WideShapes.add_plain, H.fcell (hF i hi)]
      simp [List.getD, List.getElem?_eq_getElem hi])).mono fun e w' hh => ?_
    obtain ⟨rfl, rfl⟩ := hh
    rw [bytesOf_nat, hcc]
    exact ⟨_, Γ, _, h, rfl, .refl Γ, .v _, H, rfl, rfl⟩
end Go.Abs.F
/- Layer 2: a reader of lines. -/
namespace Go.Abs.F
open Go Go.Abs
set_option maxRecDepth 10000
set_option maxHeartbeats 20000000
set_option linter.unusedSimpArgs false
set_option linter.unusedVariables false
variable {w0 : World}
theorem lnew_call (h : AH) : Call P w0 line_New [] h (fun v h' => v = .ptr h.n 0 ∧ h' = h.alloc (.cells [.list 1 [] .full])) := by
  refine Call.bodyF b_line_New rfl rfl ?_
  unfold c_line_New
  repeat' (first
| ((with_reducible apply opsF.op rfl); case hs => first | exact tHT | exact tHS)
| (with_reducible first | apply opsF.nil | apply seqF.nn | apply vcF.seq | apply vcF.region | apply vcF.skip | apply vcF.ret | apply seqF.r)
| ((with_reducible apply opsF.call); case hx => exact tAG)
| ((with_reducible apply vcF.cond); case hx => exact tEV) <;> ((intro hc; try simp only [Int.reduceLT, Int.reduceLE, Int.reduceEq, Int.reduceNe, Int.cast_ofNat_Int, Int.reduceNeg, reduceCtorEq, ne_eq, ge_iff_le, gt_iff_lt, beq_iff_eq, beq_eq_false_iff_ne, bne_iff_ne, bne_eq_false_iff_eq, nrm, *] at hc) <;> try (exfalso; omega))
| ((with_reducible first | apply retF.r | apply retF.nn); case hv => exact tRS))
  all_goals exact ⟨rfl, rfl⟩
theorem lfeed_call (lid : Nat) (w b : L8) (tw tb : Tok) (R : List Tok) (h : AH) (ho : h.objs lid = some (.cells [.list 1 (brows w) tw])) (hlt : lid < h.n) (hT : Toks h (tw :: R)) (hl : w.length + b.length ≤ 100000000000) :
    Call P w0 line_Reader_Feed [.ptr lid 0, .list 1 (brows b) tb] h (fun v h' => ∃ t', h'.objs lid = some (.cells [.list 1 (brows (w ++ b)) t']) ∧ Toks h' (t' :: R) ∧ Fr [lid] h h') := by
  have bl := brows_len
  refine Call.bodyF b_line_Reader_Feed rfl rfl ?_
  unfold c_line_Reader_Feed
  cases b with
  | nil =>
    repeat' (first
| ((with_reducible apply opsF.op rfl); case hs => first | exact tHT | exact tHS)
| (with_reducible first | apply opsF.nil | apply seqF.nn | apply vcF.seq | apply vcF.region | apply vcF.skip | apply vcF.ret | apply seqF.r)
| ((with_reducible apply opsF.call); case hx => exact tAG)
| ((with_reducible apply vcF.cond); case hx => exact tEV) <;> ((intro hc; try simp only [Int.reduceLT, Int.reduceLE, Int.reduceEq, Int.reduceNe, Int.cast_ofNat_Int, Int.reduceNeg, reduceCtorEq, ne_eq, ge_iff_le, gt_iff_lt, beq_iff_eq, beq_eq_false_iff_ne, bne_iff_ne, bne_eq_false_iff_eq, nrm, *] at hc) <;> try (exfalso; omega))
| ((with_reducible first | apply retF.r | apply retF.nn); case hv => exact tRS)
| ((with_reducible apply opsF.op rfl); (case hs => exact is_app0 tEV tEV rfl)))
    all_goals exact ⟨tw, by rw [set_at, if_pos rfl, List.append_nil], hT.set, (Fr.refl _ _).set (.inl (by simp)) _⟩
  | cons c r =>
    obtain ⟨t', h2, hap, hT2, h4, h5, h6⟩ := hT.app
    repeat' (first
| ((with_reducible apply opsF.op rfl); (case hs => exact is_appB tEV tEV (by simp) hap hl))
| ((with_reducible apply opsF.op rfl); case hs => first | exact tHT | exact tHS)
| (with_reducible first | apply opsF.nil | apply seqF.nn | apply vcF.seq | apply vcF.region | apply vcF.skip | apply vcF.ret | apply seqF.r)
| ((with_reducible apply opsF.call); case hx => exact tAG)
| ((with_reducible apply vcF.cond); case hx => exact tEV) <;> ((intro hc; try simp only [Int.reduceLT, Int.reduceLE, Int.reduceEq, Int.reduceNe, Int.cast_ofNat_Int, Int.reduceNeg, reduceCtorEq, ne_eq, ge_iff_le, gt_iff_lt, beq_iff_eq, beq_eq_false_iff_ne, bne_iff_ne, bne_eq_false_iff_eq, nrm, *] at hc) <;> try (exfalso; omega))
| ((with_reducible first | apply retF.r | apply retF.nn); case hv => exact tRS))
    all_goals exact ⟨t', by rw [set_at, if_pos rfl], hT2.set, ((Fr.refl [lid] h).app h4 h5 h6).set (.inl (by simp)) _⟩
theorem drop_at (h : AH) (i j : Nat) : (h.drop i).objs j = if j = i then none else h.objs j := rfl
theorem drop_n (h : AH) (i : Nat) : (h.drop i).n = h.n := rfl
theorem is_cvb {σ : Fm} {h : AH} {x : Opd} {id len : Nat} {cap : Option Nat} {cs : List AV} (hx : evF σ x = .row id 0 len cap) (ho : h.objs id = some (.cells cs)) (hl : len = cs.length) : istep (.cvb x) (evF σ) h = some (.list 1 (cs.map fun c => [c]) .no, h.drop id) := by
  simp only [istep, hx, ho]
  rw [if_pos (by simp [hl])]
theorem any_three (a : L8) : a.any (fun x => x = 0 || x = 10 || x = 13) = (a.contains 0 || a.contains 10 || a.contains 13) := by
  induction a with
  | nil => rfl
  | cons x a ih =>
    rw [List.any_cons, ih, List.contains_cons, List.contains_cons, List.contains_cons]
    have e : ∀ c : UInt8, (c == x) = decide (x = c) := fun c => by
      by_cases h : x = c
      · subst h; simp
      · simp [h]; exact fun e => h e.symm
    rw [e, e, e]
    generalize decide (x = 0) = p
    generalize decide (x = 10) = q
    generalize decide (x = 13) = r
    cases p <;> cases q <;> cases r <;> simp
theorem lnext_call (hM : MaxLen w0) (lid : Nat) (w : L8) (tw : Tok) (R : List Tok) (most : Int) (h : AH) (ho : h.objs lid = some (.cells [.list 1 (brows w) tw])) (hlt : lid < h.n) (hT : Toks h (tw :: R)) (hl : w.length ≤ 4000000000) :
    Call P w0 line_Reader_Next [.ptr lid 0, .v (.int .i64 most)] h (fun v h' => match cutL w with
      | none => v = .tup [.agg [.v (.int .i64 0), .v (.string (bs []))], .v (.bool false)] ∧ Ext h h'
      | some (a, r) => v = .tup [.agg [.v (.int .i64 (lineS most a).1), .v (.string (bs (lineS most a).2))], .v (.bool true)] ∧ ∃ t', h'.objs lid = some (.cells [.list 1 (brows r) t']) ∧ Toks h' (t' :: R) ∧ Fr [lid] h h') := by
  have hcut := fun tok t2 h => bcut_call hM w tok t2 h (by omega)
  have da := drop_at
  have dn := drop_n
  rw [show brows [13, 10] = [[AV.v (.int .u8 13)], [AV.v (.int .u8 10)]] from rfl] at hcut
  cases hq : cutL w with
  | none =>
    dsimp only
    simp only [cutV, hq] at hcut
    refine Call.bodyF b_line_Reader_Next rfl rfl ?_
    unfold c_line_Reader_Next
    repeat' (first
| ((with_reducible apply opsF.op rfl); case hs => first | exact tHT | exact tHS)
| (with_reducible first | apply opsF.nil | apply seqF.nn | apply vcF.seq | apply vcF.region | apply vcF.skip | apply vcF.block | apply vcF.exit | apply vcF.ret | apply vcF.loop | apply seqF.e | apply seqF.r | apply blkF.nn | apply blkF.e | apply blkF.r | apply blkF.o rfl)
| ((with_reducible apply opsF.call); case hx => exact tAG)
| ((with_reducible apply opsF.want); (case hg => exact tEV); case hb => exact tNB)
| ((with_reducible apply opsF.skip); (case hg => exact tEV); case hb => exact tNB)
| (first | ((with_reducible apply opsF.case); case hg => exact tEV) | ((with_reducible apply vcF.cond); case hx => exact tEV)) <;> ((intro hc; try simp only [Int.reduceLT, Int.reduceLE, Int.reduceEq, Int.reduceNe, Int.cast_ofNat_Int, Int.reduceNeg, reduceCtorEq, ne_eq, ge_iff_le, gt_iff_lt, beq_iff_eq, beq_eq_false_iff_ne, bne_iff_ne, bne_eq_false_iff_eq, nrm, *] at hc) <;> try (exfalso; omega))
| ((with_reducible apply opsF.und); case hg => rfl)
| ((with_reducible first | apply retF.r | apply retF.nn); case hv => exact tRS)
| ((with_reducible apply opsF.op rfl); (case hs => exact is_cvb tEV tHE (by rfl)))
| ((refine Call.use (hcut _ _ _) ?_)))
    all_goals exact ⟨rfl, (by repeat' (first | exact Ext.refl _ | (refine Ext.set ?_ (by first | exact Nat.le_refl _ | (simp only [alloc_n, set_n]; omega) | (simp only [alloc_n, set_n, drop_n]; omega)) _) | (refine Ext.trans ?_ (Ext.alloc _ _)) | (refine Ext.drop ?_ (by simp only [alloc_n, set_n, drop_n]; omega))))⟩
  | some p =>
    obtain ⟨a, r⟩ := p
    dsimp only
    have hlen := cutL_len hq
    simp only [cutV, hq] at hcut
    have bl := brows_len
    have bi1 := fun tok h => bidx_call (w0 := w0) a tok 0 h
    have bi2 := fun tok h => bidx_call (w0 := w0) a tok 13 h
    have bi3 := fun tok h => bidx_call (w0 := w0) a tok 10 h
    have c1 := idx_ge (c := 0) (s := a)
    have c2 := idx_ge (c := 13) (s := a)
    have c3 := idx_ge (c := 10) (s := a)
    have hlS : lineS most a = if most < (a.length : Int) + 2 then (2, []) else if (decide (0 ≤ Lib.indexByte a 0) || decide (0 ≤ Lib.indexByte a 10) || decide (0 ≤ Lib.indexByte a 13)) = true then (3, []) else (1, a) := by
      rw [lineS, any_three, c1, c2, c3]
    rw [hlS]
    clear c1 c2 c3 hlS
    generalize Lib.indexByte a 0 = n1 at *
    generalize Lib.indexByte a 13 = n2 at *
    generalize Lib.indexByte a 10 = n3 at *
    refine Call.bodyF b_line_Reader_Next rfl rfl ?_
    unfold c_line_Reader_Next
    repeat' (first
| ((with_reducible apply opsF.op rfl); case hs => first | exact tHT | exact tHS)
| (with_reducible first | apply opsF.nil | apply seqF.nn | apply vcF.seq | apply vcF.region | apply vcF.skip | apply vcF.block | apply vcF.exit | apply vcF.ret | apply vcF.loop | apply seqF.e | apply seqF.r | apply blkF.nn | apply blkF.e | apply blkF.r | apply blkF.o rfl)
| ((with_reducible apply opsF.call); case hx => exact tAG)
| ((with_reducible apply opsF.want); (case hg => exact tEV); case hb => exact tNB)
| ((with_reducible apply opsF.skip); (case hg => exact tEV); case hb => exact tNB)
| (first | ((with_reducible apply opsF.case); case hg => exact tEV) | ((with_reducible apply vcF.cond); case hx => exact tEV)) <;> ((intro hc; try simp only [Int.reduceLT, Int.reduceLE, Int.reduceEq, Int.reduceNe, Int.cast_ofNat_Int, Int.reduceNeg, reduceCtorEq, ne_eq, ge_iff_le, gt_iff_lt, beq_iff_eq, beq_eq_false_iff_ne, bne_iff_ne, bne_eq_false_iff_eq, nrm, *] at hc) <;> try (exfalso; omega))
| ((with_reducible apply opsF.und); case hg => rfl)
| ((with_reducible first | apply retF.r | apply retF.nn); case hv => exact tRS)
| ((with_reducible apply opsF.op rfl); (case hs => exact is_cvb tEV tHE (by rfl)))
| ((refine Call.use (hcut _ _ _) ?_))
| ((refine (bclone_call r _ R _ (hT.tail.ext (by repeat' (first | exact Ext.refl _ | (refine Ext.set ?_ (by first | exact Nat.le_refl _ | (simp only [alloc_n, set_n]; omega) | (simp only [alloc_n, set_n, drop_n]; omega)) _) | (refine Ext.trans ?_ (Ext.alloc _ _)) | (refine Ext.drop ?_ (by simp only [alloc_n, set_n, drop_n]; omega))))) (by omega)).mono fun v h3 hp => ?_); obtain ⟨t', rfl, hT3, hE3⟩ := hp; have hN := hE3.n; have hO := hE3.objs; simp only [drop_n, alloc_n, set_n] at hN hO; have ho1 := hO lid (by omega); have ho2 := hO h.n (by omega); have ho3 : Ext h h3 := Ext.trans (by repeat' (first | exact Ext.refl _ | (refine Ext.set ?_ (by first | exact Nat.le_refl _ | (simp only [alloc_n, set_n]; omega) | (simp only [alloc_n, set_n, drop_n]; omega)) _) | (refine Ext.trans ?_ (Ext.alloc _ _)) | (refine Ext.drop ?_ (by simp only [alloc_n, set_n, drop_n]; omega)))) hE3; simp (disch := omega) only [drop_at, alloc_at, alloc_n, set_at, if_neg, if_pos, eq_self, if_true, ho] at ho1 ho2)
| ((refine Call.use (bi1 _ _) ?_))
| ((refine Call.use (bi2 _ _) ?_))
| ((refine Call.use (bi3 _ _) ?_)))
    all_goals refine ⟨?_, t', ?_, ?_, ?_⟩
    all_goals first
      | exact ((Fr.ext ho3).set (.inl (by simp)) _).set (.inr (Nat.le_refl _)) _
      | exact hT3.set.set
      | (simp (disch := omega) only [set_at, if_neg, if_pos, eq_self, if_true]; done)
      | (rw [if_pos (by assumption)])
      | (rw [if_neg (by omega), if_pos (by simp; omega)])
      | (rw [if_neg (by omega), if_neg (by simp; omega)])
end Go.Abs.F
/- Layer 7: a session's object; what it says; its end. -/
namespace Go.Abs.F
open Go Go.Abs
set_option maxRecDepth 10000
set_option maxHeartbeats 20000000
set_option linter.unusedSimpArgs false
set_option linter.unusedVariables false
variable {w0 : World}
def icel (l : List Int) : List AV := l.map fun n => .v (.int .i64 n)
theorem icel_len (l : List Int) : (icel l).length = l.length := by simp [icel]
theorem icel_get (l : List Int) (i : Nat) : (icel l)[i]? = (l[i]?).map fun n => .v (.int .i64 n) := by simp [icel]
theorem set_set (h : AH) (i : Nat) (a b : AObj) : (h.set i a).set i b = h.set i b := by
  cases h
  simp only [AH.set, AH.mk.injEq, and_true, true_and]
  funext j
  split <;> rfl
theorem set_id {h : AH} {i : Nat} {o : AObj} (ho : h.objs i = some o) : h.set i o = h := by
  cases h
  simp only [AH.set, AH.mk.injEq, and_true, true_and]
  funext j
  split
  · rename_i e; subst e; exact ho.symm
  · rfl
/-- Where a session's parts lie. -/
structure CK where
  id : Nat
  lid : Nat
  rid : Nat
  cid : Nat
def CK.ids (x : CK) : List Nat := [x.id, x.lid, x.rid, x.cid]
def ccells (x : CK) (s : CS) (tt to : Tok) : List AV := [.v (.string (bs s.host)), .v (.string (bs s.sndr)), .list 1 (srows s.tg) tt, .v (.string (bs s.body)), .ptr x.lid 0, .ptr x.rid 0, .list 1 (srows s.out) to, .v (.int .i64 (s.st : Int)), .v (.int .i64 (s.pos : Int)), .row x.cid 0 s.tg.length (some s.tg.length), .v (.bool s.over)]
structure ClO (h : AH) (x : CK) (s : CS) (tt to tl tr : Tok) : Prop where
  o : h.objs x.id = some (.cells (ccells x s tt to))
  l : ∃ w, h.objs x.lid = some (.cells [.list 1 (brows w) tl]) ∧ (s.over = false → w = s.wait)
  r : ∃ ls, h.objs x.rid = some (.cells [.v (.int .i64 s.code), .list 1 (srows ls) tr]) ∧ ls.length = s.nls
  c : h.objs x.cid = some (.cells (icel s.codes))
  lt : x.id < h.n ∧ x.lid < h.n ∧ x.rid < h.n ∧ x.cid < h.n
  ne : x.id ≠ x.lid ∧ x.id ≠ x.rid ∧ x.id ≠ x.cid ∧ x.lid ≠ x.rid ∧ x.lid ≠ x.cid ∧ x.rid ≠ x.cid
  ln : s.codes.length = s.tg.length
theorem ClO.upd {h h2 : AH} {x : CK} {s s' : CS} {tt to tl tr to' : Tok} (H : ClO h x s tt to tl tr) (h4 : h2.objs = h.objs) (h5 : h2.n = h.n) (e1 : s'.wait = s.wait) (e2 : s'.code = s.code) (e2b : s'.nls = s.nls) (e3 : s'.codes = s.codes) (e4 : s'.over = false → s.over = false) (e5 : s'.tg = s.tg) :
    ClO (h2.set x.id (.cells (ccells x s' tt to'))) x s' tt to' tl tr := by
  obtain ⟨n1, n2, n3, n4, n5, n6⟩ := H.ne
  refine ⟨by rw [set_at, if_pos rfl], ?_, ?_, ?_, by rw [set_n, h5]; exact H.lt, H.ne, by rw [e3, e5]; exact H.ln⟩
  · obtain ⟨w, q1, q2⟩ := H.l
    exact ⟨w, by rw [set_at, if_neg (Ne.symm n1), h4]; exact q1, fun e => by rw [e1]; exact q2 (e4 e)⟩
  · obtain ⟨ls, q1, q2⟩ := H.r
    exact ⟨ls, by rw [set_at, if_neg (Ne.symm n2), h4, e2]; exact q1, by rw [e2b]; exact q2⟩
  · rw [set_at, if_neg (Ne.symm n3), h4, e3]; exact H.c
theorem csay_call (x : CK) (s : CS) (tt to tl tr : Tok) (R : List Tok) (t : L8) (h : AH) (H : ClO h x s tt to tl tr) (hT : Toks h (to :: R)) (ht : t.length ≤ 1000000000000000000) (ho : s.out.length ≤ 1000000000) :
    Call P w0 send_Client_say [.ptr x.id 0, .v (.string (bs t))] h (fun v h' => ∃ to', ClO h' x (s.say t) tt to' tl tr ∧ Toks h' (to' :: R) ∧ Fr x.ids h h') := by
  obtain ⟨to', h2, hap, hT2, h4, h5, h6⟩ := hT.app
  have hob := H.o
  have xl := srows_len
  unfold ccells at hob
  refine Call.bodyF b_send_Client_say rfl rfl ?_
  unfold c_send_Client_say
  repeat' (first
| ((with_reducible apply opsF.op rfl); case hs => first | exact tHT | exact tHS)
| (with_reducible first | apply opsF.nil | apply seqF.nn | apply vcF.seq | apply vcF.region | apply vcF.skip | apply vcF.ret | apply seqF.r)
| ((with_reducible apply opsF.call); case hx => exact tAG)
| ((with_reducible apply vcF.cond); case hx => exact tEV) <;> ((intro hc; try simp only [Int.reduceLT, Int.reduceLE, Int.reduceEq, Int.reduceNe, Int.cast_ofNat_Int, Int.reduceNeg, reduceCtorEq, ne_eq, ge_iff_le, gt_iff_lt, beq_iff_eq, beq_eq_false_iff_ne, bne_iff_ne, bne_eq_false_iff_eq, nrm, *] at hc) <;> try (exfalso; omega))
| ((with_reducible first | apply retF.r | apply retF.nn); case hv => exact tRS))
  have e : srows (s.say t).out = srows s.out ++ [[.v (.string (bs (t ++ [13, 10])))]] := by
    show srows (s.out ++ [t ++ [13, 10]]) = _
    rw [srows_app]; rfl
  have hU := H.upd (s' := s.say t) (to' := to') h4 h5 rfl rfl rfl rfl (fun e => e) rfl
  unfold ccells at hU
  rw [e] at hU
  exact ⟨to', hU, hT2.set, ((Fr.refl x.ids h).app h4 h5 h6).set (.inl (by simp [CK.ids])) _⟩
theorem openC_take {c : Int} {l : List Int} {i : Nat} {n : Int} (hn : l[i]? = some n) : openC c (l.take (i + 1)) ++ l.drop (i + 1) = openC c (l.take i) ++ (if n = 0 then c else n) :: l.drop (i + 1) := by
  rw [List.take_add_one, hn]
  simp [openC]
theorem cend_call (x : CK) (s : CS) (tt to tl tr : Tok) (c : Int) (h : AH) (H : ClO h x s tt to tl tr) (hl : s.tg.length ≤ 140737488351232) :
    Call P w0 send_Client_end [.ptr x.id 0, .v (.int .i64 c)] h (fun v h' => ClO h' x (s.fin c) tt to tl tr ∧ (∀ ts, Toks h ts → Toks h' ts) ∧ Fr x.ids h h') := by
  have hob := H.o
  have hcb := H.c
  have hln := H.ln
  obtain ⟨n1, n2, n3, n4, n5, n6⟩ := H.ne
  obtain ⟨m1, m2, m3, m4⟩ := H.lt
  unfold ccells at hob
  refine Call.bodyF b_send_Client_end rfl rfl ?_
  unfold c_send_Client_end
  repeat' (first
| ((with_reducible apply opsF.op rfl); case hs => first | exact tHT | exact tHS)
| (with_reducible first | apply opsF.nil | apply seqF.nn | apply vcF.seq | apply vcF.region | apply vcF.skip | apply vcF.block | apply vcF.exit | apply vcF.ret | apply vcF.loop | apply seqF.e | apply seqF.r | apply blkF.nn | apply blkF.e | apply blkF.r | apply blkF.o rfl)
| ((with_reducible apply opsF.call); case hx => exact tAG)
| ((with_reducible apply vcF.cond); case hx => exact tEV) <;> ((intro hc; try simp only [Int.reduceLT, Int.reduceLE, Int.reduceEq, Int.reduceNe, Int.cast_ofNat_Int, Int.reduceNeg, reduceCtorEq, ne_eq, ge_iff_le, gt_iff_lt, beq_iff_eq, beq_eq_false_iff_ne, bne_iff_ne, bne_eq_false_iff_eq, nrm, *] at hc) <;> try (exfalso; omega))
| ((with_reducible first | apply retF.r | apply retF.nn); case hv => exact tRS))
  refine LpF.ind rfl (fun i : Nat => s.codes.length - i) (fun i σ hh => hh = h.set x.cid (.cells (icel (openC c (s.codes.take i) ++ s.codes.drop i))) ∧ σ 0 = .ptr x.id 0 ∧ σ 1 = .v (.int .i64 c) ∧ σ 9 = .row x.cid 0 s.tg.length (some s.tg.length) ∧ σ 10 = .v (.int .i64 (s.tg.length : Nat)) ∧ σ 11 = .v (.int .i64 (i : Nat)) ∧ i ≤ s.codes.length) ?_ (i := 0)
    ⟨by simp only [List.take_zero, List.drop_zero, openC, List.map_nil, List.nil_append]; exact (set_id hcb).symm, rfl, rfl, rfl, rfl, rfl, Nat.zero_le _⟩
  rintro i σ hh ⟨rfl, g0, g1, g9, g10, g11, hi⟩
  have hlen : (icel (openC c (s.codes.take i) ++ s.codes.drop i)).length = s.tg.length := by
    rw [icel_len, List.length_append, openC_len, List.length_take, List.length_drop]; omega
  rcases Nat.lt_or_ge i s.codes.length with hlt | hge
  · obtain ⟨n, hn⟩ : ∃ n, s.codes[i]? = some n := ⟨_, List.getElem?_eq_getElem hlt⟩
    have hg : (icel (openC c (s.codes.take i) ++ s.codes.drop i))[i]? = some (.v (.int .i64 n)) := by
      rw [icel_get, List.getElem?_append_right (by rw [openC_len, List.length_take]; omega), openC_len, List.length_take, List.getElem?_drop, show i + (i - min i s.codes.length) = i by omega, hn]
      rfl
    have hnx : icel (openC c (s.codes.take (i + 1)) ++ s.codes.drop (i + 1)) = if n = 0 then (icel (openC c (s.codes.take i) ++ s.codes.drop i)).set i (.v (.int .i64 c)) else icel (openC c (s.codes.take i) ++ s.codes.drop i) := by
      rw [openC_take hn]
      have hd : s.codes.drop i = n :: s.codes.drop (i + 1) := drop_step hn
      rw [hd]
      have hll : (icel (openC c (s.codes.take i))).length = i := by rw [icel_len, openC_len, List.length_take]; omega
      split
      · simp only [icel, List.map_append, List.map_cons] at hll ⊢
        rw [List.set_append_right _ _ (by omega), hll, Nat.sub_self]
        rfl
      · rfl
    generalize icel (openC c (s.codes.take i) ++ s.codes.drop i) = cs at *
    by_cases hz : n = 0
    · rw [if_pos hz] at hnx
      subst hz
      repeat' (first
| ((with_reducible apply opsF.op rfl); (case hs => exact is_load (v := .v (.int .i64 0)) tEV tHE (by simpa [rd] using hg)))
| ((with_reducible apply opsF.op rfl); case hs => first | exact tHT | exact tHS)
| (with_reducible first | apply opsF.nil | apply seqF.nn | apply vcF.seq | apply vcF.region | apply vcF.skip | apply vcF.block | apply vcF.exit | apply vcF.ret | apply vcF.loop | apply seqF.e | apply seqF.r | apply blkF.nn | apply blkF.e | apply blkF.r | apply blkF.o rfl)
| ((with_reducible apply opsF.call); case hx => exact tAG)
| ((with_reducible apply vcF.cond); case hx => exact tEV) <;> ((intro hc; try simp only [Int.reduceLT, Int.reduceLE, Int.reduceEq, Int.reduceNe, Int.cast_ofNat_Int, Int.reduceNeg, reduceCtorEq, ne_eq, ge_iff_le, gt_iff_lt, beq_iff_eq, beq_eq_false_iff_ne, bne_iff_ne, bne_eq_false_iff_eq, nrm, *] at hc) <;> try (exfalso; omega))
| ((with_reducible first | apply retF.r | apply retF.nn); case hv => exact tRS))
      refine ⟨i + 1, by omega, ?_, g0, g1, g9, g10, rfl, by omega⟩
      rw [set_set, hnx]
      congr 2
      simp
    · rw [if_neg hz] at hnx
      repeat' (first
| ((with_reducible apply opsF.op rfl); (case hs => exact is_load (v := .v (.int .i64 n)) tEV tHE (by simpa [rd] using hg)))
| ((with_reducible apply opsF.op rfl); case hs => first | exact tHT | exact tHS)
| (with_reducible first | apply opsF.nil | apply seqF.nn | apply vcF.seq | apply vcF.region | apply vcF.skip | apply vcF.block | apply vcF.exit | apply vcF.ret | apply vcF.loop | apply seqF.e | apply seqF.r | apply blkF.nn | apply blkF.e | apply blkF.r | apply blkF.o rfl)
| ((with_reducible apply opsF.call); case hx => exact tAG)
| ((with_reducible apply vcF.cond); case hx => exact tEV) <;> ((intro hc; try simp only [Int.reduceLT, Int.reduceLE, Int.reduceEq, Int.reduceNe, Int.cast_ofNat_Int, Int.reduceNeg, reduceCtorEq, ne_eq, ge_iff_le, gt_iff_lt, beq_iff_eq, beq_eq_false_iff_ne, bne_iff_ne, bne_eq_false_iff_eq, nrm, *] at hc) <;> try (exfalso; omega))
| ((with_reducible first | apply retF.r | apply retF.nn); case hv => exact tRS))
      exact ⟨i + 1, by omega, by rw [hnx], g0, g1, g9, g10, rfl, by omega⟩
  · obtain rfl : i = s.codes.length := by omega
    rw [List.take_length, List.drop_length, List.append_nil] at *
    repeat' (first
| ((with_reducible apply opsF.op rfl); case hs => first | exact tHT | exact tHS)
| (with_reducible first | apply opsF.nil | apply seqF.nn | apply vcF.seq | apply vcF.region | apply vcF.skip | apply vcF.block | apply vcF.exit | apply vcF.ret | apply vcF.loop | apply seqF.e | apply seqF.r | apply blkF.nn | apply blkF.e | apply blkF.r | apply blkF.o rfl)
| ((with_reducible apply opsF.call); case hx => exact tAG)
| ((with_reducible apply vcF.cond); case hx => exact tEV) <;> ((intro hc; try simp only [Int.reduceLT, Int.reduceLE, Int.reduceEq, Int.reduceNe, Int.cast_ofNat_Int, Int.reduceNeg, reduceCtorEq, ne_eq, ge_iff_le, gt_iff_lt, beq_iff_eq, beq_eq_false_iff_ne, bne_iff_ne, bne_eq_false_iff_eq, nrm, *] at hc) <;> try (exfalso; omega))
| ((with_reducible first | apply retF.r | apply retF.nn); case hv => exact tRS))
    refine ⟨⟨?_, ?_, ?_, ?_, H.lt, H.ne, by show (openC c s.codes).length = _; rw [openC_len]; exact hln⟩, fun ts ht => ht.set.set, ((Fr.refl x.ids h).set (.inl (by simp [CK.ids])) _).set (.inl (by simp [CK.ids])) _⟩
    · rw [set_at, if_pos rfl]; rfl
    · obtain ⟨w, q1, _⟩ := H.l
      exact ⟨w, by rw [set_at, if_neg (Ne.symm n1), set_at, if_neg n5]; exact q1, fun e => by cases e⟩
    · obtain ⟨ls, q1, q2⟩ := H.r
      exact ⟨ls, by rw [set_at, if_neg (Ne.symm n2), set_at, if_neg n6]; exact q1, q2⟩
    · rw [set_at, if_neg (Ne.symm n3), set_at, if_pos rfl]; rfl
end Go.Abs.F
/- Layer 7: what follows a reply. -/
namespace Go.Abs.F
open Go Go.Abs
set_option maxRecDepth 10000
set_option maxHeartbeats 20000000
set_option linter.unusedSimpArgs false
set_option linter.unusedVariables false
variable {w0 : World}
structure CS.Sz (s : CS) : Prop where
  host : s.host.length ≤ 140737488351232
  sndr : s.sndr.length ≤ 140737488351232
  tgs : ∀ t ∈ s.tg, t.length ≤ 140737488351232
  tgl : s.tg.length ≤ 140737488351232
theorem cquit_call (x : CK) (s : CS) (tt to tl tr : Tok) (R : List Tok) (c : Int) (h : AH) (H : ClO h x s tt to tl tr) (hT : Toks h (to :: R)) (hz : s.Sz) (ho : s.out.length ≤ 1000000000) :
    Call P w0 send_Client_quit [.ptr x.id 0, .v (.int .i64 c)] h (fun v h' => ∃ to', ClO h' x (s.quit c) tt to' tl tr ∧ Toks h' (to' :: R) ∧ Fr x.ids h h') := by
  refine Call.bodyF b_send_Client_quit rfl rfl ?_
  unfold c_send_Client_quit
  repeat' (first
| ((with_reducible apply opsF.op rfl); case hs => first | exact tHT | exact tHS)
| (with_reducible first | apply opsF.nil | apply seqF.nn | apply vcF.seq | apply vcF.region | apply vcF.skip | apply vcF.ret | apply seqF.r)
| ((with_reducible apply opsF.call); case hx => exact tAG)
| ((with_reducible apply vcF.cond); case hx => exact tEV) <;> ((intro hc; try simp only [Int.reduceLT, Int.reduceLE, Int.reduceEq, Int.reduceNe, Int.cast_ofNat_Int, Int.reduceNeg, reduceCtorEq, ne_eq, ge_iff_le, gt_iff_lt, beq_iff_eq, beq_eq_false_iff_ne, bne_iff_ne, bne_eq_false_iff_eq, nrm, *] at hc) <;> try (exfalso; omega))
| ((with_reducible first | apply retF.r | apply retF.nn); case hv => exact tRS)
| ((refine (cend_call x s tt to tl tr c _ H hz.tgl).mono fun v h1 hp => ?_); obtain ⟨H1, hT1, hF1⟩ := hp; replace hT1 := hT1 _ hT)
| ((refine (csay_call x (s.fin c) tt to tl tr R tQUIT _ H1 hT1 (by decide) ho).mono fun v h2 hp => ?_); obtain ⟨to', H2, hT2, hF2⟩ := hp))
  all_goals exact ⟨to', H2, hT2, hF1.trans hF2⟩
theorem cwanted_call (x : CK) (s : CS) (tt to tl tr : Tok) (h : AH) (H : ClO h x s tt to tl tr) : Call P w0 send_Client_wanted [.ptr x.id 0] h (fun v h' => v = .v (.int .i64 (wantC s.st)) ∧ h' = h) := by
  have hob := H.o
  unfold ccells at hob
  refine Call.bodyF b_send_Client_wanted rfl rfl ?_
  unfold c_send_Client_wanted wantC
  by_cases h0 : s.st = 0
  · rw [h0] at hob ⊢
    repeat' (first
| ((with_reducible apply opsF.op rfl); case hs => first | exact tHT | exact tHS)
| (with_reducible first | apply opsF.nil | apply seqF.nn | apply vcF.seq | apply vcF.region | apply vcF.skip | apply vcF.block | apply vcF.exit | apply vcF.ret | apply vcF.loop | apply seqF.e | apply seqF.r | apply blkF.nn | apply blkF.e | apply blkF.r | apply blkF.o rfl)
| ((with_reducible apply opsF.call); case hx => exact tAG)
| ((with_reducible apply vcF.cond); case hx => exact tEV) <;> ((intro hc; try simp only [Int.reduceLT, Int.reduceLE, Int.reduceEq, Int.reduceNe, Int.cast_ofNat_Int, Int.reduceNeg, reduceCtorEq, ne_eq, ge_iff_le, gt_iff_lt, beq_iff_eq, beq_eq_false_iff_ne, bne_iff_ne, bne_eq_false_iff_eq, nrm, *] at hc) <;> try (exfalso; omega))
| ((with_reducible first | apply retF.r | apply retF.nn); case hv => exact tRS))
    all_goals exact ⟨rfl, rfl⟩
  · by_cases h4 : s.st = 4
    · rw [h4] at hob ⊢
      repeat' (first
| ((with_reducible apply opsF.op rfl); case hs => first | exact tHT | exact tHS)
| (with_reducible first | apply opsF.nil | apply seqF.nn | apply vcF.seq | apply vcF.region | apply vcF.skip | apply vcF.block | apply vcF.exit | apply vcF.ret | apply vcF.loop | apply seqF.e | apply seqF.r | apply blkF.nn | apply blkF.e | apply blkF.r | apply blkF.o rfl)
| ((with_reducible apply opsF.call); case hx => exact tAG)
| ((with_reducible apply vcF.cond); case hx => exact tEV) <;> ((intro hc; try simp only [Int.reduceLT, Int.reduceLE, Int.reduceEq, Int.reduceNe, Int.cast_ofNat_Int, Int.reduceNeg, reduceCtorEq, ne_eq, ge_iff_le, gt_iff_lt, beq_iff_eq, beq_eq_false_iff_ne, bne_iff_ne, bne_eq_false_iff_eq, nrm, *] at hc) <;> try (exfalso; omega))
| ((with_reducible first | apply retF.r | apply retF.nn); case hv => exact tRS))
      all_goals exact ⟨rfl, rfl⟩
    · rw [if_neg h0, if_neg h4]
      have k0 : ¬ (s.st : Int) = 0 := by omega
      have k4 : ¬ (s.st : Int) = 4 := by omega
      generalize (s.st : Int) = q at *
      repeat' (first
| ((with_reducible apply opsF.op rfl); case hs => first | exact tHT | exact tHS)
| (with_reducible first | apply opsF.nil | apply seqF.nn | apply vcF.seq | apply vcF.region | apply vcF.skip | apply vcF.block | apply vcF.exit | apply vcF.ret | apply vcF.loop | apply seqF.e | apply seqF.r | apply blkF.nn | apply blkF.e | apply blkF.r | apply blkF.o rfl)
| ((with_reducible apply opsF.call); case hx => exact tAG)
| ((with_reducible apply vcF.cond); case hx => exact tEV) <;> ((intro hc; try simp only [Int.reduceLT, Int.reduceLE, Int.reduceEq, Int.reduceNe, Int.cast_ofNat_Int, Int.reduceNeg, reduceCtorEq, ne_eq, ge_iff_le, gt_iff_lt, beq_iff_eq, beq_eq_false_iff_ne, bne_iff_ne, bne_eq_false_iff_eq, nrm, *] at hc) <;> try (exfalso; omega))
| ((with_reducible first | apply retF.r | apply retF.nn); case hv => exact tRS))
      all_goals exact ⟨rfl, rfl⟩
theorem cnext_call (x : CK) (s : CS) (tt to tl tr : Tok) (R : List Tok) (h : AH) (H : ClO h x s tt to tl tr) (hT : Toks h (to :: R)) (hz : s.Sz) (ho : s.out.length ≤ 999999999) (hst : s.st ≤ 4) (htg : 1 ≤ s.tg.length) :
    Call P w0 send_Client_next [.ptr x.id 0] h (fun v h' => ∃ to', ClO h' x s.next tt to' tl tr ∧ Toks h' (to' :: R) ∧ Fr x.ids h h') := by
  obtain ⟨z1, z2, z3, z4⟩ := hz
  obtain ⟨host, sndr, tg, body, wait, code, out, st, pos, codes, over, nls⟩ := s
  simp only at z1 z2 z3 z4 ho hst htg
  obtain ⟨t0, tg', rfl⟩ : ∃ t0 tg', tg = t0 :: tg' := by
    cases tg with
    | nil => simp at htg
    | cons a b => exact ⟨a, b, rfl⟩
  have z5 := z3 t0 (by simp)
  have hg0 : (srows (t0 :: tg'))[0]? = some [.v (.string (bs t0))] := rfl
  have hob := H.o
  have xl := srows_len
  obtain ⟨m1, m2, m3, m4⟩ := H.lt
  have step : ∀ (s' : CS), s'.wait = wait → s'.code = code → s'.nls = nls → s'.codes = codes → s'.over = over → s'.tg = t0 :: tg' → ClO (h.set x.id (.cells (ccells x s' tt to))) x s' tt to tl tr := fun s' e1 e2 e2b e3 e4 e5 => H.upd rfl rfl e1 e2 e2b e3 (fun e => by rw [e4] at e; exact e) e5
  have fr0 : ∀ o, Fr x.ids h (h.set x.id o) := fun o => (Fr.refl x.ids h).set (.inl (by simp [CK.ids])) o
  unfold ccells at hob step
  refine Call.bodyF b_send_Client_next rfl rfl ?_
  unfold c_send_Client_next
  match st, hst with
  | 0, _ =>
    have S := step ⟨host, sndr, t0 :: tg', body, wait, code, out, 1, pos, codes, over, nls⟩ rfl rfl rfl rfl rfl rfl
    have sy := fun t ht => csay_call (w0 := w0) x ⟨host, sndr, t0 :: tg', body, wait, code, out, 1, pos, codes, over, nls⟩ tt to tl tr R t _ S hT.set ht (show out.length ≤ 1000000000 by omega)
    clear step S
    generalize srows (t0 :: tg') = TG at *
    simp only at hob sy
    repeat' (first
| ((with_reducible apply opsF.op rfl); case hs => first | exact tHT | exact tHS)
| (with_reducible first | apply opsF.nil | apply seqF.nn | apply vcF.seq | apply vcF.region | apply vcF.skip | apply vcF.block | apply vcF.exit | apply vcF.ret | apply vcF.loop | apply seqF.e | apply seqF.r | apply blkF.nn | apply blkF.e | apply blkF.r | apply blkF.o rfl)
| ((with_reducible apply opsF.call); case hx => exact tAG)
| ((with_reducible apply vcF.cond); case hx => exact tEV) <;> ((intro hc; try simp only [Int.reduceLT, Int.reduceLE, Int.reduceEq, Int.reduceNe, Int.cast_ofNat_Int, Int.reduceNeg, reduceCtorEq, ne_eq, ge_iff_le, gt_iff_lt, beq_iff_eq, beq_eq_false_iff_ne, bne_iff_ne, bne_eq_false_iff_eq, nrm, *] at hc) <;> try (exfalso; omega))
| ((with_reducible first | apply retF.r | apply retF.nn); case hv => exact tRS)
| ((refine (sy _ (by simp <;> omega)).mono fun v h2 hp => ?_); obtain ⟨to', H2, hT2, hF2⟩ := hp))
    all_goals exact ⟨to', H2, hT2, (fr0 _).trans hF2⟩
  | 1, _ =>
    have S := step ⟨host, sndr, t0 :: tg', body, wait, code, out, 2, pos, codes, over, nls⟩ rfl rfl rfl rfl rfl rfl
    have sy := fun t ht => csay_call (w0 := w0) x ⟨host, sndr, t0 :: tg', body, wait, code, out, 2, pos, codes, over, nls⟩ tt to tl tr R t _ S hT.set ht (show out.length ≤ 1000000000 by omega)
    clear step S
    generalize srows (t0 :: tg') = TG at *
    simp only at hob sy
    repeat' (first
| ((with_reducible apply opsF.op rfl); case hs => first | exact tHT | exact tHS)
| (with_reducible first | apply opsF.nil | apply seqF.nn | apply vcF.seq | apply vcF.region | apply vcF.skip | apply vcF.block | apply vcF.exit | apply vcF.ret | apply vcF.loop | apply seqF.e | apply seqF.r | apply blkF.nn | apply blkF.e | apply blkF.r | apply blkF.o rfl)
| ((with_reducible apply opsF.call); case hx => exact tAG)
| ((with_reducible apply vcF.cond); case hx => exact tEV) <;> ((intro hc; try simp only [Int.reduceLT, Int.reduceLE, Int.reduceEq, Int.reduceNe, Int.cast_ofNat_Int, Int.reduceNeg, reduceCtorEq, ne_eq, ge_iff_le, gt_iff_lt, beq_iff_eq, beq_eq_false_iff_ne, bne_iff_ne, bne_eq_false_iff_eq, nrm, *] at hc) <;> try (exfalso; omega))
| ((with_reducible first | apply retF.r | apply retF.nn); case hv => exact tRS)
| ((refine (sy _ (by simp <;> omega)).mono fun v h2 hp => ?_); obtain ⟨to', H2, hT2, hF2⟩ := hp))
    all_goals exact ⟨to', H2, hT2, (fr0 _).trans hF2⟩
  | 2, _ =>
    have S := step ⟨host, sndr, t0 :: tg', body, wait, code, out, 3, pos, codes, over, nls⟩ rfl rfl rfl rfl rfl rfl
    have sy := fun t ht => csay_call (w0 := w0) x ⟨host, sndr, t0 :: tg', body, wait, code, out, 3, pos, codes, over, nls⟩ tt to tl tr R t _ S hT.set ht (show out.length ≤ 1000000000 by omega)
    clear step S
    generalize srows (t0 :: tg') = TG at *
    simp only at hob sy
    repeat' (first
| ((with_reducible apply opsF.op rfl); case hs => first | exact tHT | exact tHS)
| (with_reducible first | apply opsF.nil | apply seqF.nn | apply vcF.seq | apply vcF.region | apply vcF.skip | apply vcF.block | apply vcF.exit | apply vcF.ret | apply vcF.loop | apply seqF.e | apply seqF.r | apply blkF.nn | apply blkF.e | apply blkF.r | apply blkF.o rfl)
| ((with_reducible apply opsF.call); case hx => exact tAG)
| ((with_reducible apply vcF.cond); case hx => exact tEV) <;> ((intro hc; try simp only [Int.reduceLT, Int.reduceLE, Int.reduceEq, Int.reduceNe, Int.cast_ofNat_Int, Int.reduceNeg, reduceCtorEq, ne_eq, ge_iff_le, gt_iff_lt, beq_iff_eq, beq_eq_false_iff_ne, bne_iff_ne, bne_eq_false_iff_eq, nrm, *] at hc) <;> try (exfalso; omega))
| ((with_reducible first | apply retF.r | apply retF.nn); case hv => exact tRS)
| ((refine (sy _ (by simp <;> omega)).mono fun v h2 hp => ?_); obtain ⟨to', H2, hT2, hF2⟩ := hp))
    all_goals exact ⟨to', H2, hT2, (fr0 _).trans hF2⟩
  | 3, _ =>
    have S := step ⟨host, sndr, t0 :: tg', body, wait, code, out, 4, pos, codes, over, nls⟩ rfl rfl rfl rfl rfl rfl
    have sy := fun t ht => csay_call (w0 := w0) x ⟨host, sndr, t0 :: tg', body, wait, code, out, 4, pos, codes, over, nls⟩ tt to tl tr R t _ S hT.set ht (show out.length ≤ 1000000000 by omega)
    clear step S
    generalize srows (t0 :: tg') = TG at *
    simp only at hob sy
    repeat' (first
| ((with_reducible apply opsF.op rfl); case hs => first | exact tHT | exact tHS)
| (with_reducible first | apply opsF.nil | apply seqF.nn | apply vcF.seq | apply vcF.region | apply vcF.skip | apply vcF.block | apply vcF.exit | apply vcF.ret | apply vcF.loop | apply seqF.e | apply seqF.r | apply blkF.nn | apply blkF.e | apply blkF.r | apply blkF.o rfl)
| ((with_reducible apply opsF.call); case hx => exact tAG)
| ((with_reducible apply vcF.cond); case hx => exact tEV) <;> ((intro hc; try simp only [Int.reduceLT, Int.reduceLE, Int.reduceEq, Int.reduceNe, Int.cast_ofNat_Int, Int.reduceNeg, reduceCtorEq, ne_eq, ge_iff_le, gt_iff_lt, beq_iff_eq, beq_eq_false_iff_ne, bne_iff_ne, bne_eq_false_iff_eq, nrm, *] at hc) <;> try (exfalso; omega))
| ((with_reducible first | apply retF.r | apply retF.nn); case hv => exact tRS)
| ((refine (sy _ (by simp <;> omega)).mono fun v h2 hp => ?_); obtain ⟨to', H2, hT2, hF2⟩ := hp))
    all_goals exact ⟨to', H2, hT2, (fr0 _).trans hF2⟩
  | 4, _ =>
    obtain ⟨to', h2, hap, hT2, h4, h5, h6⟩ := (hT.set (i := x.id) (o := .cells (ccells x ⟨host, sndr, t0 :: tg', body, wait, code, out, 5, pos, codes, over, nls⟩ tt to))).app
    have S := step ⟨host, sndr, t0 :: tg', body, wait, code, out, 5, pos, codes, over, nls⟩ rfl rfl rfl rfl rfl rfl
    have hob2 : h2.objs x.id = some (.cells [.v (.string (bs host)), .v (.string (bs sndr)), .list 1 (srows (t0 :: tg')) tt, .v (.string (bs body)), .ptr x.lid 0, .ptr x.rid 0, .list 1 (srows out) to, .v (.int .i64 5), .v (.int .i64 (pos : Int)), .row x.cid 0 (t0 :: tg').length (some (t0 :: tg').length), .v (.bool over)]) := by
      rw [h4, set_at, if_pos rfl]; rfl
    have hU := S.upd (h2 := h2) (s' := ⟨host, sndr, t0 :: tg', body, wait, code, out ++ [body], 5, pos, codes, over, nls⟩) (to' := to') h4 h5 rfl rfl rfl rfl (fun e => e) rfl
    have e : srows (out ++ [body]) = srows out ++ [[.v (.string (bs body))]] := by rw [srows_app]; rfl
    have hF := ((fr0 (.cells (ccells x ⟨host, sndr, t0 :: tg', body, wait, code, out, 5, pos, codes, over, nls⟩ tt to))).app h4 h5 h6).set (.inl (by simp [CK.ids])) (i := x.id)
    unfold ccells at hap hU
    simp only at hap hob hU
    rw [e] at hU
    have e5 := srows_len out
    clear step S h4 h5 h6
    repeat' (first
| ((with_reducible apply opsF.op rfl); (case hs => exact is_app (new := []) (r := [.v (.string (bs body))]) (rows := srows out) tEV tEV (by rfl) hap (by rw [e5]; simp only [List.length_nil]; omega) rfl))
| ((with_reducible apply opsF.op rfl); case hs => first | exact tHT | exact tHS)
| (with_reducible first | apply opsF.nil | apply seqF.nn | apply vcF.seq | apply vcF.region | apply vcF.skip | apply vcF.block | apply vcF.exit | apply vcF.ret | apply vcF.loop | apply seqF.e | apply seqF.r | apply blkF.nn | apply blkF.e | apply blkF.r | apply blkF.o rfl)
| ((with_reducible apply opsF.call); case hx => exact tAG)
| ((with_reducible apply vcF.cond); case hx => exact tEV) <;> ((intro hc; try simp only [Int.reduceLT, Int.reduceLE, Int.reduceEq, Int.reduceNe, Int.cast_ofNat_Int, Int.reduceNeg, reduceCtorEq, ne_eq, ge_iff_le, gt_iff_lt, beq_iff_eq, beq_eq_false_iff_ne, bne_iff_ne, bne_eq_false_iff_eq, nrm, *] at hc) <;> try (exfalso; omega))
| ((with_reducible first | apply retF.r | apply retF.nn); case hv => exact tRS))
    all_goals exact ⟨to', hU, hT2.set, hF _⟩
end Go.Abs.F
/- Layer 7: a reply is taken. -/
namespace Go.Abs.F
open Go Go.Abs
set_option maxRecDepth 10000
set_option maxHeartbeats 20000000
set_option linter.unusedSimpArgs false
set_option linter.unusedVariables false
variable {w0 : World}
/-- Is a number in a row? -/
theorem has_call (l : List Int) (n : Int) (cid len : Nat) (cap : Option Nat) (h : AH) (ho : h.objs cid = some (.cells (icel l))) (hlen : len = l.length) (hl : l.length ≤ 140737488351232) :
    Call P w0 slices_Contains_int_int [.row cid 0 len cap, .v (.int .i64 n)] h (fun v h' => v = .v (.bool (l.contains n)) ∧ h' = h) := by
  subst hlen
  have key : Call P w0 slices_Index_int_int [.row cid 0 l.length cap, .v (.int .i64 n)] h (fun v h' => ∃ k : Int, v = .v (.int .i64 k) ∧ (decide (0 ≤ k) = l.contains n) ∧ h' = h) := by
    refine Call.bodyF b_slices_Index_int_int rfl rfl ?_
    unfold c_slices_Index_int_int
    repeat' (first
| ((with_reducible apply opsF.op rfl); case hs => first | exact tHT | exact tHS)
| (with_reducible first | apply opsF.nil | apply seqF.nn | apply vcF.seq | apply vcF.region | apply vcF.skip | apply vcF.block | apply vcF.exit | apply vcF.ret | apply vcF.loop | apply seqF.e | apply seqF.r | apply blkF.nn | apply blkF.e | apply blkF.r | apply blkF.o rfl)
| ((with_reducible apply opsF.call); case hx => exact tAG)
| ((with_reducible apply vcF.cond); case hx => exact tEV) <;> ((intro hc; try simp only [Int.reduceLT, Int.reduceLE, Int.reduceEq, Int.reduceNe, Int.cast_ofNat_Int, Int.reduceNeg, reduceCtorEq, ne_eq, ge_iff_le, gt_iff_lt, beq_iff_eq, beq_eq_false_iff_ne, bne_iff_ne, bne_eq_false_iff_eq, nrm, *] at hc) <;> try (exfalso; omega))
| ((with_reducible first | apply retF.r | apply retF.nn); case hv => exact tRS))
    refine LpF.ind rfl (fun i : Nat => l.length - i) (fun i σ hh => hh = h ∧ σ 0 = .row cid 0 l.length cap ∧ σ 1 = .v (.int .i64 n) ∧ σ 7 = .v (.int .i64 (l.length : Nat)) ∧ σ 8 = .v (.int .i64 (i : Nat)) ∧ i ≤ l.length ∧ (l.take i).contains n = false) ?_ (i := 0) ⟨rfl, rfl, rfl, rfl, rfl, Nat.zero_le _, rfl⟩
    rintro i σ hh ⟨rfl, g0, g1, g7, g8, hi, hc0⟩
    have hlc := icel_len l
    rcases Nat.lt_or_ge i l.length with hlt | hge
    · obtain ⟨y, hy⟩ : ∃ y, l[i]? = some y := ⟨_, List.getElem?_eq_getElem hlt⟩
      have hg : (icel l)[i]? = some (.v (.int .i64 y)) := by rw [icel_get, hy]; rfl
      by_cases hz : n = y
      · subst hz
        have hin : l.contains n = true := by simpa using List.mem_of_getElem? hy
        rw [hin]
        clear hc0 hin
        repeat' (first
| ((with_reducible apply opsF.op rfl); (case hs => exact is_load (v := .v (.int .i64 n)) tEV tHE (by simpa [rd] using hg)))
| ((with_reducible apply opsF.op rfl); case hs => first | exact tHT | exact tHS)
| (with_reducible first | apply opsF.nil | apply seqF.nn | apply vcF.seq | apply vcF.region | apply vcF.skip | apply vcF.block | apply vcF.exit | apply vcF.ret | apply vcF.loop | apply seqF.e | apply seqF.r | apply blkF.nn | apply blkF.e | apply blkF.r | apply blkF.o rfl)
| ((with_reducible apply opsF.call); case hx => exact tAG)
| ((with_reducible apply vcF.cond); case hx => exact tEV) <;> ((intro hc; try simp only [Int.reduceLT, Int.reduceLE, Int.reduceEq, Int.reduceNe, Int.cast_ofNat_Int, Int.reduceNeg, reduceCtorEq, ne_eq, ge_iff_le, gt_iff_lt, beq_iff_eq, beq_eq_false_iff_ne, bne_iff_ne, bne_eq_false_iff_eq, nrm, *] at hc) <;> try (exfalso; omega))
| ((with_reducible first | apply retF.r | apply retF.nn); case hv => exact tRS))
        all_goals exact ⟨_, rfl, by simp, rfl⟩
      · have hnx : (l.take (i + 1)).contains n = false := by
          rw [List.take_add_one, hy]
          simp only [Option.toList_some, List.contains_eq_mem, List.mem_append, List.mem_singleton, decide_eq_false_iff_not] at hc0 ⊢
          rintro (h1 | h1)
          · exact hc0 h1
          · exact hz h1
        clear hc0
        repeat' (first
| ((with_reducible apply opsF.op rfl); (case hs => exact is_load (v := .v (.int .i64 y)) tEV tHE (by simpa [rd] using hg)))
| ((with_reducible apply opsF.op rfl); case hs => first | exact tHT | exact tHS)
| (with_reducible first | apply opsF.nil | apply seqF.nn | apply vcF.seq | apply vcF.region | apply vcF.skip | apply vcF.block | apply vcF.exit | apply vcF.ret | apply vcF.loop | apply seqF.e | apply seqF.r | apply blkF.nn | apply blkF.e | apply blkF.r | apply blkF.o rfl)
| ((with_reducible apply opsF.call); case hx => exact tAG)
| ((with_reducible apply vcF.cond); case hx => exact tEV) <;> ((intro hc; try simp only [Int.reduceLT, Int.reduceLE, Int.reduceEq, Int.reduceNe, Int.cast_ofNat_Int, Int.reduceNeg, reduceCtorEq, ne_eq, ge_iff_le, gt_iff_lt, beq_iff_eq, beq_eq_false_iff_ne, bne_iff_ne, bne_eq_false_iff_eq, nrm, *] at hc) <;> try (exfalso; omega))
| ((with_reducible first | apply retF.r | apply retF.nn); case hv => exact tRS))
        all_goals exact ⟨i + 1, by omega, rfl, g0, g1, g7, rfl, by omega, hnx⟩
    · obtain rfl : i = l.length := by omega
      rw [List.take_length] at hc0
      rw [hc0]
      clear hc0
      repeat' (first
| ((with_reducible apply opsF.op rfl); case hs => first | exact tHT | exact tHS)
| (with_reducible first | apply opsF.nil | apply seqF.nn | apply vcF.seq | apply vcF.region | apply vcF.skip | apply vcF.block | apply vcF.exit | apply vcF.ret | apply vcF.loop | apply seqF.e | apply seqF.r | apply blkF.nn | apply blkF.e | apply blkF.r | apply blkF.o rfl)
| ((with_reducible apply opsF.call); case hx => exact tAG)
| ((with_reducible apply vcF.cond); case hx => exact tEV) <;> ((intro hc; try simp only [Int.reduceLT, Int.reduceLE, Int.reduceEq, Int.reduceNe, Int.cast_ofNat_Int, Int.reduceNeg, reduceCtorEq, ne_eq, ge_iff_le, gt_iff_lt, beq_iff_eq, beq_eq_false_iff_ne, bne_iff_ne, bne_eq_false_iff_eq, nrm, *] at hc) <;> try (exfalso; omega))
| ((with_reducible first | apply retF.r | apply retF.nn); case hv => exact tRS))
      all_goals exact ⟨_, rfl, by simp, rfl⟩
  refine Call.bodyF b_slices_Contains_int_int rfl rfl ?_
  unfold c_slices_Contains_int_int
  generalize l.contains n = q at *
  repeat' (first
| ((with_reducible apply opsF.op rfl); case hs => first | exact tHT | exact tHS)
| (with_reducible first | apply opsF.nil | apply seqF.nn | apply vcF.seq | apply vcF.region | apply vcF.skip | apply vcF.ret | apply seqF.r)
| ((with_reducible apply opsF.call); case hx => exact tAG)
| ((with_reducible apply vcF.cond); case hx => exact tEV) <;> ((intro hc; try simp only [Int.reduceLT, Int.reduceLE, Int.reduceEq, Int.reduceNe, Int.cast_ofNat_Int, Int.reduceNeg, reduceCtorEq, ne_eq, ge_iff_le, gt_iff_lt, beq_iff_eq, beq_eq_false_iff_ne, bne_iff_ne, bne_eq_false_iff_eq, nrm, *] at hc) <;> try (exfalso; omega))
| ((with_reducible first | apply retF.r | apply retF.nn); case hv => exact tRS)
| ((refine key.mono fun v h1 hp => ?_); obtain ⟨k, rfl, rfl, rfl⟩ := hp))
  all_goals exact ⟨rfl, rfl⟩
theorem ClO.cods {h : AH} {x : CK} {s : CS} {tt to tl tr : Tok} (H : ClO h x s tt to tl tr) (cs : List Int) (hl : cs.length = s.codes.length) : ClO (h.set x.cid (.cells (icel cs))) x { s with codes := cs } tt to tl tr := by
  obtain ⟨n1, n2, n3, n4, n5, n6⟩ := H.ne
  refine ⟨by rw [set_at, if_neg n3]; exact H.o, ?_, ?_, by rw [set_at, if_pos rfl], H.lt, H.ne, hl.trans H.ln⟩
  · obtain ⟨w, q1, q2⟩ := H.l
    exact ⟨w, by rw [set_at, if_neg n5]; exact q1, q2⟩
  · obtain ⟨ls, q1, q2⟩ := H.r
    exact ⟨ls, by rw [set_at, if_neg n6]; exact q1, q2⟩
/-- The code of a target. -/
def CS.tcode (s : CS) (c : Int) : CS := { s with codes := if c ≠ 250 ∧ c ≠ 251 then s.codes.set s.pos c else s.codes }
def CS.tnext (s : CS) : CS := let s1 : CS := { s with pos := s.pos + 1 }
  if s.pos + 1 < s.tg.length then s1.say (tRCPT ++ s.tg.getD (s.pos + 1) [] ++ [62]) else if s1.codes.contains 0 then s1.next else s1.quit 0
theorem target_eq (s : CS) (c : Int) : s.target c = (s.tcode c).tnext := rfl
theorem ctnext_run (x : CK) (s : CS) (tt to tl tr : Tok) (R : List Tok) (h hh : AH) (σ : Fm) (H : ClO hh x s tt to tl tr) (hT : Toks hh (to :: R)) (hF : Fr x.ids h hh) (g0 : σ 0 = .ptr x.id 0) (hz : s.Sz) (ho : s.out.length ≤ 999999999) (hst : s.st = 3) (hpos : s.pos < s.tg.length) :
    vcF P w0 62 (.seq (.region [⟨some 20, .mv (.tmp 0), none⟩, ⟨some 21, .nilc (.tmp 20), none⟩, ⟨some 22, .fad (.tmp 21) 8, none⟩, ⟨some 23, .load (.tmp 22) none, none⟩, ⟨some 24, .bin .add .other (.tmp 23) (.cst (.v (.int .i64 1))), none⟩, ⟨some 25, .nilc (.tmp 20), none⟩, ⟨some 26, .fad (.tmp 25) 8, none⟩, ⟨none, .store (.tmp 26) (.tmp 24) 1, none⟩]) (.block 0 (.seq (.region [⟨some 30, .mv (.tmp 0), none⟩, ⟨some 31, .nilc (.tmp 30), none⟩, ⟨some 32, .fad (.tmp 31) 8, none⟩, ⟨some 33, .load (.tmp 32) none, none⟩, ⟨some 34, .mv (.tmp 0), none⟩, ⟨some 35, .nilc (.tmp 34), none⟩, ⟨some 36, .fad (.tmp 35) 2, none⟩, ⟨some 37, .load (.tmp 36) none, none⟩, ⟨some 38, .len .sl (.tmp 37), none⟩, ⟨some 39, .bin .lss .other (.tmp 33) (.tmp 38), none⟩, ⟨some 29, .mv (.tmp 39), none⟩]) (.cond (.tmp 29) (.region [⟨some 40, .mv (.tmp 0), none⟩, ⟨some 41, .mv (.tmp 0), none⟩, ⟨some 42, .nilc (.tmp 41), none⟩, ⟨some 43, .fad (.tmp 42) 2, none⟩, ⟨some 44, .load (.tmp 43) none, none⟩, ⟨some 45, .mv (.tmp 0), none⟩, ⟨some 46, .nilc (.tmp 45), none⟩, ⟨some 47, .fad (.tmp 46) 8, none⟩, ⟨some 48, .load (.tmp 47) none, none⟩, ⟨some 49, .iaL 1 (.tmp 44) (.tmp 48), none⟩, ⟨some 50, .load (.tmp 49) none, none⟩, ⟨some 51, .bin .add .other (.cst (.v (.string (bs [82, 67, 80, 84, 32, 84, 79, 58, 60])))) (.tmp 50), none⟩, ⟨some 52, .bin .add .other (.tmp 51) (.cst (.v (.string (bs [62])))), none⟩, ⟨some 53, .call send_Client_say [.tmp 40, .tmp 52], none⟩]) (.seq (.region [⟨some 55, .mv (.tmp 0), none⟩, ⟨some 56, .nilc (.tmp 55), none⟩, ⟨some 57, .fad (.tmp 56) 9, none⟩, ⟨some 58, .load (.tmp 57) none, none⟩, ⟨some 59, .call slices_Contains_int_int [.tmp 58, .cst (.v (.int .i64 0))], none⟩, ⟨some 54, .mv (.tmp 59), none⟩]) (.cond (.tmp 54) (.region [⟨some 60, .mv (.tmp 0), none⟩, ⟨some 61, .call send_Client_next [.tmp 60], none⟩]) (.region [⟨some 27, .mv (.tmp 0), none⟩, ⟨some 28, .call send_Client_quit [.tmp 27, .cst (.v (.int .i64 0))], none⟩]))))))) (retF [] fun v h' => ∃ to', ClO h' x s.tnext tt to' tl tr ∧ Toks h' (to' :: R) ∧ Fr x.ids h h') σ hh := by
  have hob := H.o
  have hcb := H.c
  have hln := H.ln
  obtain ⟨n1, n2, n3, n4, n5, n6⟩ := H.ne
  obtain ⟨s', hs'⟩ : ∃ s' : CS, s' = { s with pos := s.pos + 1 } := ⟨_, rfl⟩
  have S : ClO (hh.set x.id (.cells (ccells x s' tt to))) x s' tt to tl tr := H.upd rfl rfl (by rw [hs']) (by rw [hs']) (by rw [hs']) (by rw [hs']) (fun e => by rw [hs'] at e; exact e) (by rw [hs'])
  have hF0 : ∀ o, Fr x.ids h (hh.set x.id o) := fun o => hF.set (.inl (by simp [CK.ids])) o
  have hz' : s'.Sz := by rw [hs']; exact ⟨hz.host, hz.sndr, hz.tgs, hz.tgl⟩
  have ho' : s'.out.length ≤ 999999999 := by rw [hs']; exact ho
  have e1 : s'.codes = s.codes := by rw [hs']
  have e2 : s'.st = 3 := by rw [hs']; exact hst
  have e3 : s'.tg = s.tg := by rw [hs']
  have xl := srows_len s.tg
  have htn : s.tnext = if s.pos + 1 < s.tg.length then s'.say (tRCPT ++ s.tg.getD (s.pos + 1) [] ++ [62]) else if s'.codes.contains 0 then s'.next else s'.quit 0 := by rw [hs']; rfl
  rw [htn]
  have hco : (hh.set x.id (.cells (ccells x s' tt to))).objs x.cid = some (.cells (icel s.codes)) := by rw [set_at, if_neg (Ne.symm n3)]; exact hcb
  have hcc : ccells x s' tt to = [.v (.string (bs s.host)), .v (.string (bs s.sndr)), .list 1 (srows s.tg) tt, .v (.string (bs s.body)), .ptr x.lid 0, .ptr x.rid 0, .list 1 (srows s.out) to, .v (.int .i64 (s.st : Int)), .v (.int .i64 ((s.pos : Int) + 1)), .row x.cid 0 s.tg.length (some s.tg.length), .v (.bool s.over)] := by rw [hs']; rfl
  rw [hcc] at S hco
  unfold ccells at hob
  -- unfold c_send_Client_target
  have ztg := hz.tgl
  by_cases hlt : s.pos + 1 < s.tg.length
  · rw [if_pos hlt]
    obtain ⟨y, hy⟩ : ∃ y, s.tg[s.pos + 1]? = some y := ⟨_, List.getElem?_eq_getElem hlt⟩
    have hyl := hz.tgs y (List.mem_of_getElem? hy)
    have hgd : s.tg.getD (s.pos + 1) [] = y := by simp [List.getD, hy]
    have hg : (srows s.tg)[s.pos + 1]? = some [.v (.string (bs y))] := by rw [srows_get, hy]; rfl
    have hti : ((s.pos : Int) + 1).toNat = s.pos + 1 := by omega
    rw [hgd]
    have sy := fun t ht => csay_call (w0 := w0) x s' tt to tl tr R t _ S hT.set ht (by omega)
    clear S hco hcc htn hst hs' e1 e2 e3
    repeat' (first
| ((with_reducible apply opsF.op rfl); (case hs => exact is_iaL tEV tEV (by omega) (by rw [hti]; exact hg)))
| ((with_reducible apply opsF.op rfl); case hs => first | exact tHT | exact tHS)
| (with_reducible first | apply opsF.nil | apply seqF.nn | apply vcF.seq | apply vcF.region | apply vcF.skip | apply vcF.block | apply vcF.exit | apply vcF.ret | apply vcF.loop | apply seqF.e | apply seqF.r | apply blkF.nn | apply blkF.e | apply blkF.r | apply blkF.o rfl)
| ((with_reducible apply opsF.call); case hx => exact tAG)
| ((with_reducible apply opsF.want); (case hg => exact tEV); case hb => exact tNB)
| ((with_reducible apply opsF.skip); (case hg => exact tEV); case hb => exact tNB)
| (first | ((with_reducible apply opsF.case); case hg => exact tEV) | ((with_reducible apply vcF.cond); case hx => exact tEV)) <;> ((intro hc; try simp only [Int.reduceLT, Int.reduceLE, Int.reduceEq, Int.reduceNe, Int.cast_ofNat_Int, Int.reduceNeg, reduceCtorEq, ne_eq, ge_iff_le, gt_iff_lt, beq_iff_eq, beq_eq_false_iff_ne, bne_iff_ne, bne_eq_false_iff_eq, nrm, *] at hc) <;> try (exfalso; omega))
| ((with_reducible apply opsF.und); case hg => rfl)
| ((with_reducible first | apply retF.r | apply retF.nn); case hv => exact tRS)
| ((refine (sy _ (by simp <;> omega)).mono fun v h2 hp => ?_); obtain ⟨to', H2, hT2, hF2⟩ := hp))
    all_goals exact ⟨to', H2, hT2, (hF0 _).trans hF2⟩
  · rw [if_neg hlt]
    have hhas := has_call (w0 := w0) s.codes 0 x.cid s.tg.length (some s.tg.length) _ hco hln.symm (by rw [hln]; exact hz.tgl)
    rw [e1]
    cases hq : s.codes.contains 0 with
    | true =>
      rw [hq] at hhas
      rw [if_pos rfl]
      have sn := cnext_call (w0 := w0) x s' tt to tl tr R _ S hT.set hz' ho' (by omega) (by rw [e3]; omega)
      clear S hco hcc htn hq hst hs' e1 e2 e3
      repeat' (first
| ((with_reducible apply opsF.op rfl); case hs => first | exact tHT | exact tHS)
| (with_reducible first | apply opsF.nil | apply seqF.nn | apply vcF.seq | apply vcF.region | apply vcF.skip | apply vcF.block | apply vcF.exit | apply vcF.ret | apply vcF.loop | apply seqF.e | apply seqF.r | apply blkF.nn | apply blkF.e | apply blkF.r | apply blkF.o rfl)
| ((with_reducible apply opsF.call); case hx => exact tAG)
| ((with_reducible apply opsF.want); (case hg => exact tEV); case hb => exact tNB)
| ((with_reducible apply opsF.skip); (case hg => exact tEV); case hb => exact tNB)
| (first | ((with_reducible apply opsF.case); case hg => exact tEV) | ((with_reducible apply vcF.cond); case hx => exact tEV)) <;> ((intro hc; try simp only [Int.reduceLT, Int.reduceLE, Int.reduceEq, Int.reduceNe, Int.cast_ofNat_Int, Int.reduceNeg, reduceCtorEq, ne_eq, ge_iff_le, gt_iff_lt, beq_iff_eq, beq_eq_false_iff_ne, bne_iff_ne, bne_eq_false_iff_eq, nrm, *] at hc) <;> try (exfalso; omega))
| ((with_reducible apply opsF.und); case hg => rfl)
| ((with_reducible first | apply retF.r | apply retF.nn); case hv => exact tRS)
| ((refine Call.use hhas ?_))
| ((refine sn.mono fun v h2 hp => ?_); obtain ⟨to', H2, hT2, hF2⟩ := hp))
      all_goals exact ⟨to', H2, hT2, (hF0 _).trans hF2⟩
    | false =>
      rw [hq] at hhas
      rw [if_neg (by simp)]
      have sn := cquit_call (w0 := w0) x s' tt to tl tr R 0 _ S hT.set hz' (by omega)
      clear S hco hcc htn hq hst hs' e1 e2 e3
      repeat' (first
| ((with_reducible apply opsF.op rfl); case hs => first | exact tHT | exact tHS)
| (with_reducible first | apply opsF.nil | apply seqF.nn | apply vcF.seq | apply vcF.region | apply vcF.skip | apply vcF.block | apply vcF.exit | apply vcF.ret | apply vcF.loop | apply seqF.e | apply seqF.r | apply blkF.nn | apply blkF.e | apply blkF.r | apply blkF.o rfl)
| ((with_reducible apply opsF.call); case hx => exact tAG)
| ((with_reducible apply opsF.want); (case hg => exact tEV); case hb => exact tNB)
| ((with_reducible apply opsF.skip); (case hg => exact tEV); case hb => exact tNB)
| (first | ((with_reducible apply opsF.case); case hg => exact tEV) | ((with_reducible apply vcF.cond); case hx => exact tEV)) <;> ((intro hc; try simp only [Int.reduceLT, Int.reduceLE, Int.reduceEq, Int.reduceNe, Int.cast_ofNat_Int, Int.reduceNeg, reduceCtorEq, ne_eq, ge_iff_le, gt_iff_lt, beq_iff_eq, beq_eq_false_iff_ne, bne_iff_ne, bne_eq_false_iff_eq, nrm, *] at hc) <;> try (exfalso; omega))
| ((with_reducible apply opsF.und); case hg => rfl)
| ((with_reducible first | apply retF.r | apply retF.nn); case hv => exact tRS)
| ((refine Call.use hhas ?_))
| ((refine sn.mono fun v h2 hp => ?_); obtain ⟨to', H2, hT2, hF2⟩ := hp))
      all_goals exact ⟨to', H2, hT2, (hF0 _).trans hF2⟩
theorem ctarget_call (x : CK) (s : CS) (tt to tl tr : Tok) (R : List Tok) (c : Int) (h : AH) (H : ClO h x s tt to tl tr) (hT : Toks h (to :: R)) (hz : s.Sz) (ho : s.out.length ≤ 999999999) (hst : s.st = 3) (hpos : s.pos < s.tg.length) :
    Call P w0 send_Client_target [.ptr x.id 0, .v (.int .i64 c)] h (fun v h' => ∃ to', ClO h' x (s.target c) tt to' tl tr ∧ Toks h' (to' :: R) ∧ Fr x.ids h h') := by
  rw [target_eq]
  have hob := H.o
  have hcb := H.c
  have hln := H.ln
  obtain ⟨n1, n2, n3, n4, n5, n6⟩ := H.ne
  unfold ccells at hob
  have hicl := icel_len s.codes
  refine Call.bodyF b_send_Client_target rfl rfl ?_
  unfold c_send_Client_target
  repeat' (first
| (refine vcF.cut (a := .seq (.region _) (.cond _ _ .skip)) (fun σ hh => ClO hh x (s.tcode c) tt to tl tr ∧ Toks hh (to :: R) ∧ Fr x.ids h hh ∧ σ 0 = .ptr x.id 0) ?_ ?_)
| ((with_reducible apply opsF.op rfl); case hs => first | exact tHT | exact tHS)
| (with_reducible first | apply opsF.nil | apply seqF.nn | apply vcF.seq | apply vcF.region | apply vcF.skip | apply vcF.block | apply vcF.exit | apply vcF.ret | apply vcF.loop | apply seqF.e | apply seqF.r | apply blkF.nn | apply blkF.e | apply blkF.r | apply blkF.o rfl)
| ((with_reducible apply opsF.call); case hx => exact tAG)
| ((with_reducible apply opsF.want); (case hg => exact tEV); case hb => exact tNB)
| ((with_reducible apply opsF.skip); (case hg => exact tEV); case hb => exact tNB)
| (first | ((with_reducible apply opsF.case); case hg => exact tEV) | ((with_reducible apply vcF.cond); case hx => exact tEV)) <;> ((intro hc; try simp only [Int.reduceLT, Int.reduceLE, Int.reduceEq, Int.reduceNe, Int.cast_ofNat_Int, Int.reduceNeg, reduceCtorEq, ne_eq, ge_iff_le, gt_iff_lt, beq_iff_eq, beq_eq_false_iff_ne, bne_iff_ne, bne_eq_false_iff_eq, nrm, *] at hc) <;> try (exfalso; omega))
| ((with_reducible apply opsF.und); case hg => rfl)
| ((with_reducible first | apply retF.r | apply retF.nn); case hv => exact tRS))
  rotate_right
  · rintro σ hh ⟨H1, hT1, hF1, g0⟩
    exact ctnext_run x _ tt to tl tr R h hh σ H1 hT1 hF1 g0 ⟨hz.host, hz.sndr, hz.tgs, hz.tgl⟩ ho hst hpos
  all_goals first
    | (have e : s.tcode c = { s with codes := s.codes.set s.pos c } := by
         simp only [CS.tcode]
         rw [if_pos ⟨by assumption, by assumption⟩]
       have e2 : (icel s.codes).set (0 + s.pos * 1) (.v (.int .i64 c)) = icel (s.codes.set s.pos c) := by
         simp [icel, List.map_set]
       rw [e, e2]
       exact ⟨H.cods _ (by simp), hT.set, (Fr.refl x.ids h).set (.inl (by simp [CK.ids])) _, rfl⟩)
    | (have e : s.tcode c = s := by
         simp only [CS.tcode]
         rw [if_neg (by rintro ⟨a, b⟩; first | exact a (by omega) | exact b (by omega))]
       rw [e]
       exact ⟨H, hT, .refl _ _, rfl⟩)
end Go.Abs.F
/- Layer 7: a reply is taken; the hop is gone. -/
namespace Go.Abs.F
open Go Go.Abs
set_option maxRecDepth 10000
set_option maxHeartbeats 20000000
set_option linter.unusedSimpArgs false
set_option linter.unusedVariables false
variable {w0 : World}
theorem ctake_call (x : CK) (s : CS) (tt to tl tr : Tok) (R : List Tok) (c : Int) (h : AH) (H : ClO h x s tt to tl tr) (hT : Toks h (to :: R)) (hz : s.Sz) (ho : s.out.length ≤ 999999999) (hst : s.st ≤ 5) (hpos : s.st = 3 → s.pos < s.tg.length) (htg : 1 ≤ s.tg.length) :
    Call P w0 send_Client_take [.ptr x.id 0, .v (.int .i64 c)] h (fun v h' => ∃ to', ClO h' x (s.take c) tt to' tl tr ∧ Toks h' (to' :: R) ∧ Fr x.ids h h') := by
  have hob := H.o
  have hw := fun h H => cwanted_call (w0 := w0) x s tt to tl tr h H
  have hq := fun c => cquit_call (w0 := w0) x s tt to tl tr R c h H hT hz (by omega)
  unfold ccells at hob
  refine Call.bodyF b_send_Client_take rfl rfl ?_
  unfold c_send_Client_take CS.take
  by_cases h3 : s.st = 3
  · rw [if_pos h3]
    have ht := ctarget_call (w0 := w0) x s tt to tl tr R c h H hT hz ho h3 (hpos h3)
    have k3 : (s.st : Int) = 3 := by omega
    clear hw hq hpos h3
    generalize (s.st : Int) = q at *
    subst k3
    repeat' (first
| ((with_reducible apply opsF.op rfl); case hs => first | exact tHT | exact tHS)
| (with_reducible first | apply opsF.nil | apply seqF.nn | apply vcF.seq | apply vcF.region | apply vcF.skip | apply vcF.block | apply vcF.exit | apply vcF.ret | apply vcF.loop | apply seqF.e | apply seqF.r | apply blkF.nn | apply blkF.e | apply blkF.r | apply blkF.o rfl)
| ((with_reducible apply opsF.call); case hx => exact tAG)
| ((with_reducible apply vcF.cond); case hx => exact tEV) <;> ((intro hc; try simp only [Int.reduceLT, Int.reduceLE, Int.reduceEq, Int.reduceNe, Int.cast_ofNat_Int, Int.reduceNeg, reduceCtorEq, ne_eq, ge_iff_le, gt_iff_lt, beq_iff_eq, beq_eq_false_iff_ne, bne_iff_ne, bne_eq_false_iff_eq, nrm, *] at hc) <;> try (exfalso; omega))
| ((with_reducible first | apply retF.r | apply retF.nn); case hv => exact tRS)
| ((refine ht.mono fun v h2 hp => ?_); obtain ⟨to', H2, hT2, hF2⟩ := hp))
    all_goals exact ⟨to', H2, hT2, hF2⟩
  · rw [if_neg h3]
    have k3 : ¬ (s.st : Int) = 3 := by omega
    by_cases hc : c ≠ wantC s.st
    · rw [if_pos hc]
      have hq1 := hq c
      generalize wantC s.st = wc at *
      clear hq hpos h3
      generalize (s.st : Int) = q at *
      repeat' (first
| ((with_reducible apply opsF.op rfl); case hs => first | exact tHT | exact tHS)
| (with_reducible first | apply opsF.nil | apply seqF.nn | apply vcF.seq | apply vcF.region | apply vcF.skip | apply vcF.block | apply vcF.exit | apply vcF.ret | apply vcF.loop | apply seqF.e | apply seqF.r | apply blkF.nn | apply blkF.e | apply blkF.r | apply blkF.o rfl)
| ((with_reducible apply opsF.call); case hx => exact tAG)
| ((with_reducible apply vcF.cond); case hx => exact tEV) <;> ((intro hc; try simp only [Int.reduceLT, Int.reduceLE, Int.reduceEq, Int.reduceNe, Int.cast_ofNat_Int, Int.reduceNeg, reduceCtorEq, ne_eq, ge_iff_le, gt_iff_lt, beq_iff_eq, beq_eq_false_iff_ne, bne_iff_ne, bne_eq_false_iff_eq, nrm, *] at hc) <;> try (exfalso; omega))
| ((with_reducible first | apply retF.r | apply retF.nn); case hv => exact tRS)
| ((refine Call.use (hw _ H) ?_))
| ((refine hq1.mono fun v h2 hp => ?_); obtain ⟨to', H2, hT2, hF2⟩ := hp))
      all_goals exact ⟨to', H2, hT2, hF2⟩
    · rw [if_neg hc]
      have hc2 : c = wantC s.st := by simpa using hc
      by_cases h5 : s.st = 5
      · rw [if_pos h5]
        have hq1 := hq 250
        have k5 : (s.st : Int) = 5 := by omega
        generalize wantC s.st = wc at *
        subst hc2
        clear hq hpos h3 h5 hc
        generalize (s.st : Int) = q at *
        subst k5
        repeat' (first
| ((with_reducible apply opsF.op rfl); case hs => first | exact tHT | exact tHS)
| (with_reducible first | apply opsF.nil | apply seqF.nn | apply vcF.seq | apply vcF.region | apply vcF.skip | apply vcF.block | apply vcF.exit | apply vcF.ret | apply vcF.loop | apply seqF.e | apply seqF.r | apply blkF.nn | apply blkF.e | apply blkF.r | apply blkF.o rfl)
| ((with_reducible apply opsF.call); case hx => exact tAG)
| ((with_reducible apply vcF.cond); case hx => exact tEV) <;> ((intro hc; try simp only [Int.reduceLT, Int.reduceLE, Int.reduceEq, Int.reduceNe, Int.cast_ofNat_Int, Int.reduceNeg, reduceCtorEq, ne_eq, ge_iff_le, gt_iff_lt, beq_iff_eq, beq_eq_false_iff_ne, bne_iff_ne, bne_eq_false_iff_eq, nrm, *] at hc) <;> try (exfalso; omega))
| ((with_reducible first | apply retF.r | apply retF.nn); case hv => exact tRS)
| ((refine Call.use (hw _ H) ?_))
| ((refine hq1.mono fun v h2 hp => ?_); obtain ⟨to', H2, hT2, hF2⟩ := hp))
        all_goals exact ⟨to', H2, hT2, hF2⟩
      · rw [if_neg h5]
        have hn := cnext_call (w0 := w0) x s tt to tl tr R h H hT hz ho (by omega) htg
        have k5 : ¬ (s.st : Int) = 5 := by omega
        generalize wantC s.st = wc at *
        subst hc2
        clear hq hpos h3 h5 hc
        generalize (s.st : Int) = q at *
        repeat' (first
| ((with_reducible apply opsF.op rfl); case hs => first | exact tHT | exact tHS)
| (with_reducible first | apply opsF.nil | apply seqF.nn | apply vcF.seq | apply vcF.region | apply vcF.skip | apply vcF.block | apply vcF.exit | apply vcF.ret | apply vcF.loop | apply seqF.e | apply seqF.r | apply blkF.nn | apply blkF.e | apply blkF.r | apply blkF.o rfl)
| ((with_reducible apply opsF.call); case hx => exact tAG)
| ((with_reducible apply vcF.cond); case hx => exact tEV) <;> ((intro hc; try simp only [Int.reduceLT, Int.reduceLE, Int.reduceEq, Int.reduceNe, Int.cast_ofNat_Int, Int.reduceNeg, reduceCtorEq, ne_eq, ge_iff_le, gt_iff_lt, beq_iff_eq, beq_eq_false_iff_ne, bne_iff_ne, bne_eq_false_iff_eq, nrm, *] at hc) <;> try (exfalso; omega))
| ((with_reducible first | apply retF.r | apply retF.nn); case hv => exact tRS)
| ((refine Call.use (hw _ H) ?_))
| ((refine hn.mono fun v h2 hp => ?_); obtain ⟨to', H2, hT2, hF2⟩ := hp))
        all_goals exact ⟨to', H2, hT2, hF2⟩
theorem clost_call (x : CK) (s : CS) (tt to tl tr : Tok) (R : List Tok) (h : AH) (H : ClO h x s tt to tl tr) (hT : Toks h (to :: R)) (hz : s.Sz) :
    Call P w0 send_Client_Lost [.ptr x.id 0] h (fun v h' => ∃ to', ClO h' x s.lost tt to' tl tr ∧ Toks h' (to' :: R) ∧ Fr x.ids h h') := by
  have hob := H.o
  unfold ccells at hob
  refine Call.bodyF b_send_Client_Lost rfl rfl ?_
  unfold c_send_Client_Lost
  cases hov : s.over with
  | true =>
    have e : s.lost = s := by unfold CS.lost; rw [if_pos hov]
    rw [e]
    rw [hov] at hob
    repeat' (first
| ((with_reducible apply opsF.op rfl); case hs => first | exact tHT | exact tHS)
| (with_reducible first | apply opsF.nil | apply seqF.nn | apply vcF.seq | apply vcF.region | apply vcF.skip | apply vcF.ret | apply seqF.r)
| ((with_reducible apply opsF.call); case hx => exact tAG)
| ((with_reducible apply opsF.want); (case hg => exact tEV); case hb => exact tNB)
| ((with_reducible apply opsF.skip); (case hg => exact tEV); case hb => exact tNB)
| (first | ((with_reducible apply opsF.case); case hg => exact tEV) | ((with_reducible apply vcF.cond); case hx => exact tEV)) <;> ((intro hc; try simp only [Int.reduceLT, Int.reduceLE, Int.reduceEq, Int.reduceNe, Int.cast_ofNat_Int, Int.reduceNeg, reduceCtorEq, ne_eq, ge_iff_le, gt_iff_lt, beq_iff_eq, beq_eq_false_iff_ne, bne_iff_ne, bne_eq_false_iff_eq, nrm, *] at hc) <;> try (exfalso; omega))
| ((with_reducible apply opsF.und); case hg => rfl)
| ((with_reducible first | apply retF.r | apply retF.nn); case hv => exact tRS))
    all_goals exact ⟨to, H, hT, .refl _ _⟩
  | false =>
    have e : s.lost = { s with out := [] }.fin 421 := by unfold CS.lost; rw [if_neg (by rw [hov]; simp)]; rfl
    rw [e]
    have S := H.upd (h2 := h) (s' := { s with out := [] }) (to' := .full) rfl rfl rfl rfl rfl rfl (fun e => e) rfl
    have hF0 : ∀ o, Fr x.ids h (h.set x.id o) := fun o => (Fr.refl x.ids h).set (.inl (by simp [CK.ids])) o
    have hen := cend_call (w0 := w0) x { s with out := [] } tt .full tl tr 421 _ S hz.tgl
    unfold ccells at hen
    rw [hov] at hob
    simp only [hov] at hen
    repeat' (first
| ((with_reducible apply opsF.op rfl); case hs => first | exact tHT | exact tHS)
| (with_reducible first | apply opsF.nil | apply seqF.nn | apply vcF.seq | apply vcF.region | apply vcF.skip | apply vcF.ret | apply seqF.r)
| ((with_reducible apply opsF.call); case hx => exact tAG)
| ((with_reducible apply opsF.want); (case hg => exact tEV); case hb => exact tNB)
| ((with_reducible apply opsF.skip); (case hg => exact tEV); case hb => exact tNB)
| (first | ((with_reducible apply opsF.case); case hg => exact tEV) | ((with_reducible apply vcF.cond); case hx => exact tEV)) <;> ((intro hc; try simp only [Int.reduceLT, Int.reduceLE, Int.reduceEq, Int.reduceNe, Int.cast_ofNat_Int, Int.reduceNeg, reduceCtorEq, ne_eq, ge_iff_le, gt_iff_lt, beq_iff_eq, beq_eq_false_iff_ne, bne_iff_ne, bne_eq_false_iff_eq, nrm, *] at hc) <;> try (exfalso; omega))
| ((with_reducible apply opsF.und); case hg => rfl)
| ((with_reducible first | apply retF.r | apply retF.nn); case hv => exact tRS)
| ((refine hen.mono fun v h2 hp => ?_); obtain ⟨H2, hT2, hF2⟩ := hp))
    all_goals exact ⟨.full, H2, hT2 _ hT.full1.set, (hF0 _).trans hF2⟩
end Go.Abs.F
/- Layer 7: what goes next, whether it is over, the codes. -/
namespace Go.Abs.F
open Go Go.Abs
set_option maxRecDepth 10000
set_option maxHeartbeats 20000000
set_option linter.unusedSimpArgs false
set_option linter.unusedVariables false
variable {w0 : World}
theorem cover_call (x : CK) (s : CS) (tt to tl tr : Tok) (h : AH) (H : ClO h x s tt to tl tr) : Call P w0 send_Client_Over [.ptr x.id 0] h (fun v h' => v = .v (.bool s.over) ∧ h' = h) := by
  have hob := H.o
  unfold ccells at hob
  refine Call.bodyF b_send_Client_Over rfl rfl ?_
  unfold c_send_Client_Over
  generalize s.over = q at *
  repeat' (first
| ((with_reducible apply opsF.op rfl); case hs => first | exact tHT | exact tHS)
| (with_reducible first | apply opsF.nil | apply seqF.nn | apply vcF.seq | apply vcF.region | apply vcF.skip | apply vcF.ret | apply seqF.r)
| ((with_reducible apply opsF.call); case hx => exact tAG)
| ((with_reducible apply opsF.want); (case hg => exact tEV); case hb => exact tNB)
| ((with_reducible apply opsF.skip); (case hg => exact tEV); case hb => exact tNB)
| (first | ((with_reducible apply opsF.case); case hg => exact tEV) | ((with_reducible apply vcF.cond); case hx => exact tEV)) <;> ((intro hc; try simp only [Int.reduceLT, Int.reduceLE, Int.reduceEq, Int.reduceNe, Int.cast_ofNat_Int, Int.reduceNeg, reduceCtorEq, ne_eq, ge_iff_le, gt_iff_lt, beq_iff_eq, beq_eq_false_iff_ne, bne_iff_ne, bne_eq_false_iff_eq, nrm, *] at hc) <;> try (exfalso; omega))
| ((with_reducible apply opsF.und); case hg => rfl)
| ((with_reducible first | apply retF.r | apply retF.nn); case hv => exact tRS))
  all_goals exact ⟨rfl, rfl⟩
def CS.pop (s : CS) : CS := { s with out := s.out.tail }
theorem cNext_none (x : CK) (s : CS) (tt to tl tr : Tok) (h : AH) (H : ClO h x s tt to tl tr) (ho : s.out = []) : Call P w0 send_Client_Next [.ptr x.id 0] h (fun v h' => v = .tup [.v (.string (bs [])), .v (.bool false)] ∧ h' = h) := by
  have hob := H.o
  unfold ccells at hob
  rw [ho] at hob
  have e : srows [] = [] := rfl
  rw [e] at hob
  refine Call.bodyF b_send_Client_Next rfl rfl ?_
  unfold c_send_Client_Next
  repeat' (first
| ((with_reducible apply opsF.op rfl); case hs => first | exact tHT | exact tHS)
| (with_reducible first | apply opsF.nil | apply seqF.nn | apply vcF.seq | apply vcF.region | apply vcF.skip | apply vcF.ret | apply seqF.r)
| ((with_reducible apply opsF.call); case hx => exact tAG)
| ((with_reducible apply opsF.want); (case hg => exact tEV); case hb => exact tNB)
| ((with_reducible apply opsF.skip); (case hg => exact tEV); case hb => exact tNB)
| (first | ((with_reducible apply opsF.case); case hg => exact tEV) | ((with_reducible apply vcF.cond); case hx => exact tEV)) <;> ((intro hc; try simp only [Int.reduceLT, Int.reduceLE, Int.reduceEq, Int.reduceNe, Int.cast_ofNat_Int, Int.reduceNeg, reduceCtorEq, ne_eq, ge_iff_le, gt_iff_lt, beq_iff_eq, beq_eq_false_iff_ne, bne_iff_ne, bne_eq_false_iff_eq, nrm, *] at hc) <;> try (exfalso; omega))
| ((with_reducible apply opsF.und); case hg => rfl)
| ((with_reducible first | apply retF.r | apply retF.nn); case hv => exact tRS))
  all_goals exact ⟨rfl, rfl⟩
theorem cNext_some (x : CK) (s : CS) (tt to tl tr : Tok) (t : L8) (o : List L8) (h : AH) (H : ClO h x s tt to tl tr) (ho : s.out = t :: o) : Call P w0 send_Client_Next [.ptr x.id 0] h (fun v h' => v = .tup [.v (.string (bs t)), .v (.bool true)] ∧ ClO h' x s.pop tt to tl tr ∧ (∀ ts, Toks h ts → Toks h' ts) ∧ Fr x.ids h h') := by
  have hob := H.o
  have S := H.upd (h2 := h) (s' := s.pop) (to' := to) rfl rfl rfl rfl rfl rfl (fun e => e) rfl
  have ho2 : s.pop.out = o := by unfold CS.pop; rw [ho]; rfl
  unfold ccells at hob S
  rw [ho] at hob
  rw [ho2] at S
  have e : srows (t :: o) = [.v (.string (bs t))] :: srows o := rfl
  rw [e] at hob
  have el := srows_len o
  refine Call.bodyF b_send_Client_Next rfl rfl ?_
  unfold c_send_Client_Next
  generalize srows o = SO at *
  repeat' (first
| ((with_reducible apply opsF.op rfl); case hs => first | exact tHT | exact tHS)
| (with_reducible first | apply opsF.nil | apply seqF.nn | apply vcF.seq | apply vcF.region | apply vcF.skip | apply vcF.ret | apply seqF.r)
| ((with_reducible apply opsF.call); case hx => exact tAG)
| ((with_reducible apply opsF.want); (case hg => exact tEV); case hb => exact tNB)
| ((with_reducible apply opsF.skip); (case hg => exact tEV); case hb => exact tNB)
| (first | ((with_reducible apply opsF.case); case hg => exact tEV) | ((with_reducible apply vcF.cond); case hx => exact tEV)) <;> ((intro hc; try simp only [Int.reduceLT, Int.reduceLE, Int.reduceEq, Int.reduceNe, Int.cast_ofNat_Int, Int.reduceNeg, reduceCtorEq, ne_eq, ge_iff_le, gt_iff_lt, beq_iff_eq, beq_eq_false_iff_ne, bne_iff_ne, bne_eq_false_iff_eq, nrm, *] at hc) <;> try (exfalso; omega))
| ((with_reducible apply opsF.und); case hg => rfl)
| ((with_reducible first | apply retF.r | apply retF.nn); case hv => exact tRS))
  all_goals refine ⟨rfl, ?_, fun ts ht => ht.set, (Fr.refl x.ids h).set (.inl (by simp [CK.ids])) _⟩
  rw [show List.take (([AV.v (.string (bs t))] :: SO).length - 1) (List.drop 1 ([AV.v (.string (bs t))] :: SO)) = SO by simp, if_pos trivial]
  exact S
def nrow (l : List Int) : List (List AV) := l.map fun n => [.v (.int .i64 n)]
theorem nrow_len (l : List Int) : (nrow l).length = l.length := by simp [nrow]
theorem chunk_icel : ∀ (l : List Int) (n : Nat), n = l.length → chunk 1 n (icel l) = nrow l
  | [], n, h => by subst h; rfl
  | a :: l, n, h => by
    subst h
    show (icel (a :: l)).take 1 :: chunk 1 l.length ((icel (a :: l)).drop 1) = _
    have : (icel (a :: l)).drop 1 = icel l := rfl
    rw [this, chunk_icel l _ rfl]
    rfl
theorem Call.pur {f : FuncId} {args : List AV} {h : AH} {x : AV} (hp : Plain x) (hc : Call P w0 f args h fun v h' => v = x ∧ Ext h h') : Call P w0 f args h fun v h' => v = x ∧ h' = h :=
  hc.gc fun v h' hq => ⟨hq.1 ▸ hp, hq.2, hq.1⟩
theorem nrow_plain (l : List Int) : Plain (.list 1 (nrow l) .no) := by
  refine Plain.listv trivial fun r hr x hx => ?_
  simp only [nrow, List.mem_map] at hr
  obtain ⟨b, _, rfl⟩ := hr
  rw [List.mem_singleton.1 hx]; exact .v _
theorem iclone_call (l : List Int) (cid len : Nat) (cap : Option Nat) (h : AH) (ho : h.objs cid = some (.cells (icel l))) (hlen : len = l.length) (hl : l.length ≤ 1000000000000) : Call P w0 slices_Clone_int_int [.row cid 0 len cap] h (fun v h' => v = .list 1 (nrow l) .no ∧ h' = h) := by
  refine Call.pur (nrow_plain l) (Call.weak (Q := fun v h' => ∃ tk, v = .list 1 (nrow l) tk ∧ Ext h h') ?_ fun v h' ⟨tk, hv, hE⟩ => ⟨_, _, hv ▸ .noTok, .refl _, rfl, hE⟩)
  subst hlen
  have hc := chunk_icel l _ rfl
  have hil := icel_len l
  have hsr : srcRows 1 h (.row cid 0 l.length cap) = some (nrow l) := by
    simp only [srcRows, ho]
    rw [if_pos (by omega), List.drop_zero, hc]
  refine Call.bodyF b_slices_Clone_int_int rfl rfl ?_
  unfold c_slices_Clone_int_int
  cases l with
  | nil =>
    repeat' (first
| ((with_reducible apply opsF.op rfl); case hs => first | exact tHT | exact tHS)
| (with_reducible first | apply opsF.nil | apply seqF.nn | apply vcF.seq | apply vcF.region | apply vcF.skip | apply vcF.ret | apply seqF.r)
| ((with_reducible apply opsF.call); case hx => exact tAG)
| ((with_reducible apply vcF.cond); case hx => exact tEV) <;> ((intro hc; try simp only [Int.reduceLT, Int.reduceLE, Int.reduceEq, Int.reduceNe, Int.cast_ofNat_Int, Int.reduceNeg, reduceCtorEq, ne_eq, ge_iff_le, gt_iff_lt, beq_iff_eq, beq_eq_false_iff_ne, bne_iff_ne, bne_eq_false_iff_eq, nrm, *] at hc) <;> try (exfalso; omega))
| ((with_reducible first | apply retF.r | apply retF.nn); case hv => exact tRS)
| ((with_reducible apply opsF.op rfl); (case hs => exact is_app0 tEV tEV hsr)))
    all_goals exact ⟨.full, rfl, .refl _⟩
  | cons a l =>
    obtain ⟨tk1, h2, hap, hT2, hT3, hT4, hT5, hT6⟩ := (show TokU h .full from trivial).app
    have hnl := nrow_len l
    simp at hl
    repeat' (first
| ((with_reducible apply opsF.op rfl); case hs => first | exact tHT | exact tHS)
| (with_reducible first | apply opsF.nil | apply seqF.nn | apply vcF.seq | apply vcF.region | apply vcF.skip | apply vcF.ret | apply seqF.r)
| ((with_reducible apply opsF.call); case hx => exact tAG)
| ((with_reducible apply vcF.cond); case hx => exact tEV) <;> ((intro hc; try simp only [Int.reduceLT, Int.reduceLE, Int.reduceEq, Int.reduceNe, Int.cast_ofNat_Int, Int.reduceNeg, reduceCtorEq, ne_eq, ge_iff_le, gt_iff_lt, beq_iff_eq, beq_eq_false_iff_ne, bne_iff_ne, bne_eq_false_iff_eq, nrm, *] at hc) <;> try (exfalso; omega))
| ((with_reducible first | apply retF.r | apply retF.nn); case hv => exact tRS)
| ((with_reducible apply opsF.op rfl); (case hs => exact is_app (r := [.v (.int .i64 a)]) (new := nrow l) tEV tEV hsr hap (by rw [hnl]; simp only [List.length_nil]; omega) rfl)))
    all_goals exact ⟨_, rfl, Ext.transX (.refl h) hT6 (fun _ x => x.elim) (fun t ht => by cases ht)⟩
theorem iclip_call (l : List Int) (tok : Tok) (h : AH) (hl : l.length ≤ 1000000000000) : Call P w0 slices_Clip_int_int [.list 1 (nrow l) tok] h (fun v h' => v = .list 1 (nrow l) .no ∧ h' = h) := by
  refine Call.pur (nrow_plain l) (Call.weak (Q := fun v h' => ∃ tk, v = .list 1 (nrow l) tk ∧ Ext h h') ?_ fun v h' ⟨tk, hv, hE⟩ => ⟨_, _, hv ▸ .noTok, .refl _, rfl, hE⟩)
  have hnl := nrow_len l
  refine Call.bodyF b_slices_Clip_int_int rfl rfl ?_
  unfold c_slices_Clip_int_int
  generalize nrow l = L at *
  repeat' (first
| ((with_reducible apply opsF.op rfl); case hs => first | exact tHT | exact tHS)
| (with_reducible first | apply opsF.nil | apply seqF.nn | apply vcF.seq | apply vcF.region | apply vcF.skip | apply vcF.ret | apply seqF.r)
| ((with_reducible apply opsF.call); case hx => exact tAG)
| ((with_reducible apply vcF.cond); case hx => exact tEV) <;> ((intro hc; try simp only [Int.reduceLT, Int.reduceLE, Int.reduceEq, Int.reduceNe, Int.cast_ofNat_Int, Int.reduceNeg, reduceCtorEq, ne_eq, ge_iff_le, gt_iff_lt, beq_iff_eq, beq_eq_false_iff_ne, bne_iff_ne, bne_eq_false_iff_eq, nrm, *] at hc) <;> try (exfalso; omega))
| ((with_reducible first | apply retF.r | apply retF.nn); case hv => exact tRS))
  all_goals exact ⟨_, by rw [Nat.sub_zero, ← hnl, List.take_length], .refl _⟩
theorem ccodes_call (x : CK) (s : CS) (tt to tl tr : Tok) (h : AH) (H : ClO h x s tt to tl tr) (hl : s.tg.length ≤ 1000000000000) : Call P w0 send_Client_Codes [.ptr x.id 0] h (fun v h' => v = .list 1 (nrow s.codes) .no ∧ h' = h) := by
  have hob := H.o
  have hln := H.ln
  have h1 := iclone_call (w0 := w0) s.codes x.cid s.tg.length (some s.tg.length) h H.c hln.symm (by omega)
  have h2 := fun h => iclip_call (w0 := w0) s.codes .no h (by omega)
  unfold ccells at hob
  refine Call.bodyF b_send_Client_Codes rfl rfl ?_
  unfold c_send_Client_Codes
  repeat' (first
| ((with_reducible apply opsF.op rfl); case hs => first | exact tHT | exact tHS)
| (with_reducible first | apply opsF.nil | apply seqF.nn | apply vcF.seq | apply vcF.region | apply vcF.skip | apply vcF.ret | apply seqF.r)
| ((with_reducible apply opsF.call); case hx => exact tAG)
| ((with_reducible apply vcF.cond); case hx => exact tEV) <;> ((intro hc; try simp only [Int.reduceLT, Int.reduceLE, Int.reduceEq, Int.reduceNe, Int.cast_ofNat_Int, Int.reduceNeg, reduceCtorEq, ne_eq, ge_iff_le, gt_iff_lt, beq_iff_eq, beq_eq_false_iff_ne, bne_iff_ne, bne_eq_false_iff_eq, nrm, *] at hc) <;> try (exfalso; omega))
| ((with_reducible first | apply retF.r | apply retF.nn); case hv => exact tRS)
| ((refine Call.use h1 ?_))
| ((refine Call.use (h2 _) ?_)))
  all_goals exact ⟨rfl, rfl⟩
end Go.Abs.F
/- Layer 7: a line of a reply. -/
namespace Go.Abs.F
open Go Go.Abs
set_option maxRecDepth 10000
set_option maxHeartbeats 20000000
set_option linter.unusedSimpArgs false
set_option linter.unusedVariables false
variable {w0 : World}
/-- What the reader of replies makes of a line: the session, whether a reply is whole, its code, the error. -/
def CS.rep (s : CS) (k : Int) (t : L8) : CS × Bool × Int × Int := match oneS k t with
  | none => ({ s with code := 0, nls := 0 }, false, 0, 2)
  | some (n, more, _) => if s.nls ≠ 0 ∧ s.code ≠ n then ({ s with code := 0, nls := 0 }, false, 0, 2) else if more then ({ s with code := n, nls := s.nls + 1 }, false, 0, 0) else ({ s with code := 0, nls := 0 }, true, n, 0)
theorem line_rep (s : CS) (k : Int) (t : L8) : s.line k t = if (s.rep k t).2.2.2 ≠ 0 then (s.rep k t).1.lost else if (s.rep k t).2.1 = true then (s.rep k t).1.take (s.rep k t).2.2.1 else (s.rep k t).1 := by
  unfold CS.line CS.rep
  cases hO : oneS k t with
  | none => simp
  | some p =>
    obtain ⟨n, m, r⟩ := p
    dsimp only
    split
    · simp
    · split <;> simp
theorem feedS_rep (s : CS) (ls : List L8) (hl : ls.length = s.nls) (k : Int) (t : L8) : ∃ L1 L2, feedS s.code ls k t = (((s.rep k t).1.code, L1), ((s.rep k t).2.2.1, L2), (s.rep k t).2.1, (s.rep k t).2.2.2) ∧ L1.length = (s.rep k t).1.nls := by
  have hne : ls ≠ [] ↔ s.nls ≠ 0 := by
    rw [← hl]
    cases ls <;> simp
  unfold feedS CS.rep
  cases hO : oneS k t with
  | none => exact ⟨[], [], rfl, rfl⟩
  | some p =>
    obtain ⟨n, m, r⟩ := p
    dsimp only
    by_cases hc : s.nls ≠ 0 ∧ s.code ≠ n
    · rw [if_pos hc, if_pos ⟨hne.2 hc.1, hc.2⟩]
      exact ⟨[], [], rfl, rfl⟩
    · rw [if_neg hc, if_neg (fun h => hc ⟨hne.1 h.1, h.2⟩)]
      cases m with
      | true => exact ⟨ls ++ [r], [], rfl, by simp [hl]⟩
      | false => exact ⟨[], ls ++ [r], rfl, rfl⟩
theorem rep_same (s : CS) (k : Int) (t : L8) : ∃ c n, (s.rep k t).1 = { s with code := c, nls := n } := by
  unfold CS.rep
  cases hO : oneS k t with
  | none => exact ⟨_, _, rfl⟩
  | some p =>
    dsimp only
    split
    · exact ⟨_, _, rfl⟩
    · split <;> exact ⟨_, _, rfl⟩
theorem crep_call (x : CK) (s : CS) (tt to tl tr : Tok) (R : List Tok) (k : Int) (t : L8) (h : AH) (H : ClO h x s tt to tl tr) (hT : Toks h (tr :: R)) (ht : t.length ≤ 1000000000000) (hn : s.nls ≤ 1000000000) :
    Call P w0 reply_Reader_Feed [.ptr x.rid 0, .agg [.v (.int .i64 k), .v (.string (bs t))]] h (fun v h' => ∃ L tk tr', v = .tup [.agg [.v (.int .i64 (s.rep k t).2.2.1), .list 1 (srows L) tk], .v (.bool (s.rep k t).2.1), .v (.int .i64 (s.rep k t).2.2.2)]
      ∧ ClO h' x (s.rep k t).1 tt to tl tr' ∧ Toks h' (tr' :: R) ∧ Fr x.ids h h') := by
  obtain ⟨ls, q1, q2⟩ := H.r
  obtain ⟨n1, n2, n3, n4, n5, n6⟩ := H.ne
  obtain ⟨m1, m2, m3, m4⟩ := H.lt
  obtain ⟨L1, L2, hf, hL⟩ := feedS_rep s ls q2 k t
  obtain ⟨c', n', hs⟩ := rep_same s k t
  have hR : Rd h x.rid s.code ls tr := ⟨q1, hT.u tr (by simp), m3⟩
  refine (rpfeed_call x.rid s.code ls tr k t h hR (by omega) (by omega)).mono fun v h' hp => ?_
  obtain ⟨tk, tr', rfl, hRd, hN, hX⟩ := hp
  rw [hf] at hRd ⊢
  have hO := hX.objs
  refine ⟨L2, tk, tr', rfl, ?_, hT.step hRd.tok hN hX, Fr.extX hX (fun i hi => by simp [CK.ids, hi])⟩
  refine ⟨?_, ?_, ⟨L1, hRd.obj, hL⟩, ?_, ⟨Nat.lt_of_lt_of_le m1 hX.n, Nat.lt_of_lt_of_le m2 hX.n, Nat.lt_of_lt_of_le m3 hX.n, Nat.lt_of_lt_of_le m4 hX.n⟩, H.ne, ?_⟩
  · rw [hO _ m1 n2, hs]; exact H.o
  · obtain ⟨w, p1, p2⟩ := H.l
    exact ⟨w, by rw [hO _ m2 n4]; exact p1, by rw [hs]; exact p2⟩
  · rw [hO _ m4 (Ne.symm n6), hs]; exact H.c
  · rw [hs]; exact H.ln
end Go.Abs.F
/- Layer 7: what stays in a session. -/
namespace Go.Abs.F
open Go Go.Abs
set_option maxRecDepth 10000
set_option maxHeartbeats 20000000
set_option linter.unusedSimpArgs false
set_option linter.unusedVariables false
structure CS.Ok2 (s : CS) : Prop where
  st : s.st ≤ 5
  p2 : s.st ≤ 2 → s.pos = 0
  p3 : s.st = 3 → s.pos < s.tg.length
  tg : 1 ≤ s.tg.length
/-- What a step keeps. -/
structure CS.Kept (s s' : CS) : Prop where
  wait : s'.wait = s.wait
  tg : s'.tg = s.tg
  host : s'.host = s.host
  sndr : s'.sndr = s.sndr
  nls : s'.nls = s.nls
  out : s'.out.length ≤ s.out.length + 1
  ok : s'.over = false → s'.Ok2
theorem next_kept (s : CS) (h : s.Ok2) (hst : s.st ≤ 4) : s.Kept s.next := by
  obtain ⟨host, sndr, tg, body, wait, code, out, st, pos, codes, over, nls⟩ := s
  obtain ⟨h1, h2, h3, h4⟩ := h
  simp only at h1 h2 h3 h4 hst
  match st, hst with
  | 0, _ => exact ⟨rfl, rfl, rfl, rfl, rfl, by simp [CS.next, CS.say], fun _ => ⟨by simp [CS.next, CS.say], fun _ => h2 (by omega), (fun e => by cases e), h4⟩⟩
  | 1, _ => exact ⟨rfl, rfl, rfl, rfl, rfl, by simp [CS.next, CS.say], fun _ => ⟨by simp [CS.next, CS.say], fun _ => h2 (by omega), (fun e => by cases e), h4⟩⟩
  | 2, _ => exact ⟨rfl, rfl, rfl, rfl, rfl, by simp [CS.next, CS.say], fun _ => ⟨by simp [CS.next, CS.say], fun e => by simp [CS.next, CS.say] at e, fun _ => by
      have := h2 (by omega)
      show pos < tg.length
      omega, h4⟩⟩
  | 3, _ => exact ⟨rfl, rfl, rfl, rfl, rfl, by simp [CS.next, CS.say], fun _ => ⟨by simp [CS.next, CS.say], fun e => by simp [CS.next, CS.say] at e, (fun e => by cases e), h4⟩⟩
  | 4, _ => exact ⟨rfl, rfl, rfl, rfl, rfl, by simp [CS.next], fun _ => ⟨by simp [CS.next], fun e => by simp [CS.next] at e, (fun e => by cases e), h4⟩⟩
theorem next_kept3 (s : CS) (hst : s.st = 3) (htg : 1 ≤ s.tg.length) : s.Kept s.next := by
  obtain ⟨host, sndr, tg, body, wait, code, out, st, pos, codes, over, nls⟩ := s
  simp only at hst htg
  subst hst
  exact ⟨rfl, rfl, rfl, rfl, rfl, by simp [CS.next, CS.say], fun _ => ⟨by simp [CS.next, CS.say], fun e => by simp [CS.next, CS.say] at e, (fun e => by cases e), htg⟩⟩
theorem quit_kept (s : CS) (c : Int) : s.Kept (s.quit c) := ⟨rfl, rfl, rfl, rfl, rfl, by simp [CS.quit, CS.say, CS.fin], fun e => by simp [CS.quit, CS.say, CS.fin] at e⟩
theorem lost_kept (s : CS) (h : s.over = false) : s.Kept s.lost := by
  unfold CS.lost
  rw [if_neg (by rw [h]; simp)]
  exact ⟨rfl, rfl, rfl, rfl, rfl, by simp, fun e => by cases e⟩
theorem target_kept (s : CS) (c : Int) (h : s.Ok2) (hst : s.st = 3) : s.Kept (s.target c) := by
  unfold CS.target
  dsimp only
  generalize (if c ≠ 250 ∧ c ≠ 251 then s.codes.set s.pos c else s.codes) = cs
  split
  · rename_i hlt
    exact ⟨rfl, rfl, rfl, rfl, rfl, by simp [CS.say], fun _ => ⟨h.st, fun e => by
      have e2 : s.st ≤ 2 := e
      omega, fun _ => hlt, h.tg⟩⟩
  · split
    · have q := next_kept3 { s with codes := cs, pos := s.pos + 1 } hst h.tg
      exact ⟨q.wait, q.tg, q.host, q.sndr, q.nls, q.out, q.ok⟩
    · have q := quit_kept { s with codes := cs, pos := s.pos + 1 } 0
      exact ⟨q.wait, q.tg, q.host, q.sndr, q.nls, q.out, q.ok⟩
theorem take_kept (s : CS) (c : Int) (h : s.Ok2) : s.Kept (s.take c) := by
  unfold CS.take
  split
  · exact target_kept s c h (by assumption)
  · split
    · exact quit_kept s c
    · split
      · exact quit_kept s 250
      · have := h.st
        exact next_kept s h (by omega)
/-- What a line of a reply keeps. -/
structure CS.Kept2 (s s' : CS) : Prop where
  wait : s'.wait = s.wait
  tg : s'.tg = s.tg
  host : s'.host = s.host
  sndr : s'.sndr = s.sndr
  nls : s'.nls ≤ s.nls + 1
  out : s'.out.length ≤ s.out.length + 1
  ok : s'.over = false → s'.Ok2
theorem line_kept (s : CS) (k : Int) (t : L8) (h : s.Ok2) (ho : s.over = false) : s.Kept2 (s.line k t) := by
  unfold CS.line
  have key : ∀ (c : Int) (n : Nat), ({ s with code := c, nls := n } : CS).Ok2 := fun c n => ⟨h.st, h.p2, h.p3, h.tg⟩
  have lo : s.Kept2 ({ s with code := 0, nls := 0 } : CS).lost := by
    have q := lost_kept { s with code := 0, nls := 0 } ho
    exact ⟨q.wait, q.tg, q.host, q.sndr, by rw [q.nls]; exact Nat.zero_le _, q.out, q.ok⟩
  cases hO : oneS k t with
  | none => exact lo
  | some p =>
    obtain ⟨n, m, r⟩ := p
    dsimp only
    split
    · exact lo
    · split
      · exact ⟨rfl, rfl, rfl, rfl, Nat.le_refl _, Nat.le_succ _, fun _ => key _ _⟩
      · have q := take_kept { s with code := 0, nls := 0 } n (key _ _)
        exact ⟨q.wait, q.tg, q.host, q.sndr, by rw [q.nls]; exact Nat.zero_le _, q.out, q.ok⟩
end Go.Abs.F
/- Layer 7: bytes come. -/
namespace Go.Abs.F
open Go Go.Abs
set_option maxRecDepth 10000
set_option maxHeartbeats 20000000
set_option linter.unusedSimpArgs false
set_option linter.unusedVariables false
variable {w0 : World}
theorem ClO.setw {h : AH} {x : CK} {s : CS} {tt to tl tr : Tok} (H : ClO h x s tt to tl tr) (ho : s.over = true) (W : L8) : ClO h x { s with wait := W } tt to tl tr := by
  refine ⟨H.o, ?_, H.r, H.c, H.lt, H.ne, H.ln⟩
  obtain ⟨w, q1, q2⟩ := H.l
  exact ⟨w, q1, fun e => by rw [show ({ s with wait := W } : CS).over = s.over from rfl, ho] at e; cases e⟩
theorem ClO.ext {h h' : AH} {x : CK} {s : CS} {tt to tl tr : Tok} (H : ClO h x s tt to tl tr) (e : Ext h h') : ClO h' x s tt to tl tr := by
  obtain ⟨m1, m2, m3, m4⟩ := H.lt
  refine ⟨(e.objs _ m1).trans H.o, ?_, ?_, (e.objs _ m4).trans H.c, ⟨Nat.lt_of_lt_of_le m1 e.n, Nat.lt_of_lt_of_le m2 e.n, Nat.lt_of_lt_of_le m3 e.n, Nat.lt_of_lt_of_le m4 e.n⟩, H.ne, H.ln⟩
  · obtain ⟨w, q1, q2⟩ := H.l
    exact ⟨w, (e.objs _ m2).trans q1, q2⟩
  · obtain ⟨ls, q1, q2⟩ := H.r
    exact ⟨ls, (e.objs _ m3).trans q1, q2⟩
/-- Other bytes wait. -/
theorem ClO.newl {h h' : AH} {x : CK} {s : CS} {tt to tl tr tl' : Tok} {r : L8} (H : ClO h x s tt to tl tr) (hF : Fr [x.lid] h h') (ho : h'.objs x.lid = some (.cells [.list 1 (brows r) tl'])) : ClO h' x { s with wait := r } tt to tl' tr := by
  obtain ⟨m1, m2, m3, m4⟩ := H.lt
  obtain ⟨n1, n2, n3, n4, n5, n6⟩ := H.ne
  refine ⟨(hF.o _ m1 (by simp [n1])).trans H.o, ⟨r, ho, fun _ => rfl⟩, ?_, (hF.o _ m4 (by simp [Ne.symm n5])).trans H.c, ⟨Nat.lt_of_lt_of_le m1 hF.n, Nat.lt_of_lt_of_le m2 hF.n, Nat.lt_of_lt_of_le m3 hF.n, Nat.lt_of_lt_of_le m4 hF.n⟩, H.ne, H.ln⟩
  obtain ⟨ls, q1, q2⟩ := H.r
  exact ⟨ls, (hF.o _ m3 (by simp [Ne.symm n4])).trans q1, q2⟩
theorem next_wait (s : CS) (r : L8) : ({ s with wait := r } : CS).next = { s.next with wait := r } := by
  obtain ⟨host, sndr, tg, body, wait, code, out, st, pos, codes, over, nls⟩ := s
  match st with
  | 0 => rfl
  | 1 => rfl
  | 2 => rfl
  | 3 => rfl
  | 4 => rfl
  | n + 5 => rfl
theorem target_wait (s : CS) (c : Int) (r : L8) : ({ s with wait := r } : CS).target c = { s.target c with wait := r } := by
  unfold CS.target
  dsimp only
  generalize (if c ≠ 250 ∧ c ≠ 251 then s.codes.set s.pos c else s.codes) = cs
  by_cases h1 : s.pos + 1 < s.tg.length
  · rw [if_pos h1, if_pos h1]; rfl
  · rw [if_neg h1, if_neg h1]
    by_cases h2 : cs.contains 0 = true
    · rw [if_pos h2, if_pos h2]
      exact next_wait { s with codes := cs, pos := s.pos + 1 } r
    · rw [if_neg h2, if_neg h2]; rfl
theorem take_wait (s : CS) (c : Int) (r : L8) : ({ s with wait := r } : CS).take c = { s.take c with wait := r } := by
  unfold CS.take
  dsimp only
  by_cases h1 : s.st = 3
  · rw [if_pos h1, if_pos h1]; exact target_wait s c r
  · rw [if_neg h1, if_neg h1]
    by_cases h2 : c ≠ wantC s.st
    · rw [if_pos h2, if_pos h2]; rfl
    · rw [if_neg h2, if_neg h2]
      by_cases h3 : s.st = 5
      · rw [if_pos h3, if_pos h3]; rfl
      · rw [if_neg h3, if_neg h3]; exact next_wait s r
theorem lost_wait (s : CS) (r : L8) : ({ s with wait := r } : CS).lost = { s.lost with wait := r } := by
  unfold CS.lost
  dsimp only
  by_cases h : s.over = true
  · rw [if_pos h, if_pos h]
  · rw [if_neg h, if_neg h]
theorem line_wait (s : CS) (k : Int) (t r : L8) : ({ s with wait := r } : CS).line k t = { s.line k t with wait := r } := by
  unfold CS.line
  cases oneS k t with
  | none => exact lost_wait { s with code := 0, nls := 0 } r
  | some p =>
    obtain ⟨n, m, q⟩ := p
    dsimp only
    by_cases h1 : s.nls ≠ 0 ∧ s.code ≠ n
    · rw [if_pos h1, if_pos h1]; exact lost_wait { s with code := 0, nls := 0 } r
    · rw [if_neg h1, if_neg h1]
      cases m with
      | true => rfl
      | false => exact take_wait { s with code := 0, nls := 0 } n r
theorem lines_wait (r : L8) : ∀ (L : List (Int × L8)) (s : CS), ({ s with wait := r } : CS).lines L = { s.lines L with wait := r }
  | [], s => rfl
  | (k, t) :: L, s => by
    rw [CS.lines, CS.lines]
    by_cases h : s.over = true
    · rw [if_pos h, if_pos h]
    · rw [if_neg h, if_neg h, line_wait, lines_wait r L (s.line k t)]
/-- Where the loop stands: what is left to do makes F of the session. -/
structure FI (F s1 : CS) (m : Nat) : Prop where
  sz : s1.Sz
  k : (s1.over = true ∧ m = 0 ∧ ∃ W, F = { s1 with wait := W }) ∨ (s1.over = false ∧ m = s1.wait.length + 1 ∧ s1.Ok2 ∧ s1.out.length + s1.wait.length ≤ 900000000 ∧ s1.nls + s1.wait.length ≤ 900000000 ∧ F = { s1.lines (crlfS 512 [] s1.wait).1 with wait := (crlfS 512 [] s1.wait).2 })
theorem FI.round {F s1 : CS} {m : Nat} (k : FI F s1 m) (ho : s1.over = false) {a r : L8} (hc : cutL s1.wait = some (a, r)) : ∃ m2, m2 < m ∧ FI F (({ s1 with wait := r } : CS).line (lineS 512 a).1 (lineS 512 a).2) m2 := by
  obtain ⟨sz, h1 | ⟨_, hm, ok, b1, b2, hF⟩⟩ := k
  · rw [ho] at h1; cases h1.1
  · have hlen := cutL_len hc
    have hcr := crlfS_cut 512 s1.wait []
    rw [hc] at hcr
    simp only [List.nil_append] at hcr
    rw [hcr] at hF
    have q := line_kept ({ s1 with wait := r } : CS) (lineS 512 a).1 (lineS 512 a).2 ⟨ok.st, ok.p2, ok.p3, ok.tg⟩ ho
    dsimp only at hF
    rw [CS.lines_cons ho] at hF
    generalize lineS 512 a = ln at *
    rw [line_wait] at q ⊢
    obtain ⟨k1, k2⟩ := ln
    dsimp only at *
    generalize s1.line k1 k2 = s2 at *
    have qw := q.wait
    have qh := q.host
    have qs := q.sndr
    have qt := q.tg
    have qo := q.out
    have qn := q.nls
    have qk := q.ok
    simp only at qw qh qs qt qo qn
    have sz2 : ({ s2 with wait := r } : CS).Sz := ⟨by show s2.host.length ≤ _; rw [qh]; exact sz.host, by show s2.sndr.length ≤ _; rw [qs]; exact sz.sndr, by show ∀ t ∈ s2.tg, _; rw [qt]; exact sz.tgs, by show s2.tg.length ≤ _; rw [qt]; exact sz.tgl⟩
    rcases Bool.eq_false_or_eq_true s2.over with hov | hov
    · refine ⟨0, by omega, sz2, .inl ⟨hov, rfl, (crlfS 512 [] r).2, ?_⟩⟩
      rw [hF, CS.lines_over hov]
    · refine ⟨r.length + 1, by omega, sz2, .inr ⟨hov, rfl, qk hov, by show s2.out.length + r.length ≤ _; omega, by show s2.nls + r.length ≤ _; omega, ?_⟩⟩
      rw [hF]
      have e := lines_wait r (crlfS 512 [] r).1 s2
      show _ = ({ ({ s2 with wait := r } : CS).lines (crlfS 512 [] r).1 with wait := (crlfS 512 [] r).2 } : CS)
      exact (congrArg (fun q : CS => ({ q with wait := (crlfS 512 [] r).2 } : CS)) e).symm
end Go.Abs.F
/- Layer 7: bytes come: the session's Feed. -/
namespace Go.Abs.F
open Go Go.Abs
set_option maxRecDepth 10000
set_option maxHeartbeats 20000000
set_option linter.unusedSimpArgs false
set_option linter.unusedVariables false
variable {w0 : World}
/-- What the loop keeps. -/
structure FR2 (x : CK) (tt : Tok) (R : List Tok) (h : AH) (s1 : CS) (to tl tr : Tok) (hh : AH) : Prop where
  o : ClO hh x s1 tt to tl tr
  t : Toks hh (to :: tl :: tr :: R)
  f : Fr x.ids h hh
theorem Toks.rot {h : AH} {a b c : Tok} {R : List Tok} (k : Toks h (a :: b :: c :: R)) : Toks h (c :: b :: a :: R) :=
  k.perm (((List.Perm.swap b a (c :: R)).trans (List.Perm.cons b (List.Perm.swap c a R))).trans (List.Perm.swap c b (a :: R)))
theorem Toks.rot2 {h : AH} {a b c : Tok} {R : List Tok} (k : Toks h (c :: a :: b :: R)) : Toks h (a :: b :: c :: R) :=
  k.perm ((List.Perm.swap a c (b :: R)).trans (List.Perm.cons a (List.Perm.swap b c R)))
theorem ClO.fr {h h' : AH} {x : CK} {s : CS} {tt to tl tr : Tok} (H : ClO h x s tt to tl tr) {I : List Nat} (e : Fr I h h') (hd : ∀ i ∈ x.ids, ¬ i ∈ I) : ClO h' x s tt to tl tr := by
  obtain ⟨m1, m2, m3, m4⟩ := H.lt
  refine ⟨(e.o _ m1 (hd _ (by simp [CK.ids]))).trans H.o, ?_, ?_, (e.o _ m4 (hd _ (by simp [CK.ids]))).trans H.c, ⟨Nat.lt_of_lt_of_le m1 e.n, Nat.lt_of_lt_of_le m2 e.n, Nat.lt_of_lt_of_le m3 e.n, Nat.lt_of_lt_of_le m4 e.n⟩, H.ne, H.ln⟩
  · obtain ⟨w, q1, q2⟩ := H.l
    exact ⟨w, (e.o _ m2 (hd _ (by simp [CK.ids]))).trans q1, q2⟩
  · obtain ⟨ls, q1, q2⟩ := H.r
    exact ⟨ls, (e.o _ m3 (hd _ (by simp [CK.ids]))).trans q1, q2⟩
theorem ClO.new {h : AH} {x : CK} {s : CS} {tt to tl tr : Tok} (H : ClO h x s tt to tl tr) (i : Nat) (hi : x.id < i ∧ x.lid < i ∧ x.rid < i ∧ x.cid < i) (o : AObj) : ClO (h.set i o) x s tt to tl tr :=
  H.fr ((Fr.refl [i] h).set (.inl (by simp)) o) fun j hj hk => by
    simp [CK.ids] at hj hk
    omega
theorem cfeed_call (hM : MaxLen w0) (x : CK) (s : CS) (tt to tl tr : Tok) (R : List Tok) (b : L8) (tb : Tok) (h : AH) (H : ClO h x s tt to tl tr) (hT : Toks h (to :: tl :: tr :: R)) (hz : s.Sz) (hok : s.over = false → s.Ok2) (hb1 : s.over = false → s.out.length + (s.wait.length + b.length) ≤ 900000000) (hb2 : s.over = false → s.nls + (s.wait.length + b.length) ≤ 900000000) :
    Call P w0 send_Client_Feed [.ptr x.id 0, .list 1 (brows b) tb] h (fun v h' => ∃ to' tl' tr', FR2 x tt R h (s.feed b) to' tl' tr' h') := by
  have hob := H.o
  unfold ccells at hob
  obtain ⟨m1, m2, m3, m4⟩ := H.lt
  refine Call.bodyF b_send_Client_Feed rfl rfl ?_
  unfold c_send_Client_Feed
  rcases Bool.eq_false_or_eq_true s.over with hov | hov
  · have e : s.feed b = s := by unfold CS.feed; rw [if_pos hov]
    rw [e]
    rw [hov] at hob
    clear hok hb1 hb2
    repeat' (first
| ((with_reducible first | apply opsF.op rfl | apply dopsF.op rfl); case hs => first | exact tHT | exact tHS)
| (with_reducible first | apply opsF.nil | apply seqF.nn | apply vcF.seq | apply vcF.region | apply vcF.dregion | apply vcF.dalts | apply dallF.cons | apply dallF.nil | apply vcF.skip | apply vcF.block | apply vcF.exit | apply vcF.ret | apply vcF.loop | apply seqF.e | apply seqF.r | apply blkF.nn | apply blkF.e | apply blkF.r | apply blkF.o rfl | apply dopsF.nil | apply stabsF.nil | apply stabsF.cons | apply dopsF.cont)
| ((with_reducible first | apply opsF.call | apply dopsF.call); case hx => exact tAG)
| ((with_reducible first | apply opsF.want | apply dopsF.want | apply stabF.want); (case hg => exact tEV); case hb => exact tNB)
| ((with_reducible first | apply opsF.skip | apply dopsF.skip | apply stabF.skip); (case hg => exact tEV); case hb => exact tNB)
| (first | ((with_reducible first | apply opsF.case | apply dopsF.case); case hg => exact tEV) | ((with_reducible apply vcF.cond); case hx => exact tEV)) <;> ((intro hc; try simp only [Int.reduceLT, Int.reduceLE, Int.reduceEq, Int.reduceNe, Int.cast_ofNat_Int, Int.reduceNeg, reduceCtorEq, ne_eq, ge_iff_le, gt_iff_lt, beq_iff_eq, beq_eq_false_iff_ne, bne_iff_ne, bne_eq_false_iff_eq, nrm, *] at hc) <;> try (exfalso; omega))
| ((with_reducible first | apply opsF.und | apply dopsF.und); case hg => rfl)
| ((with_reducible apply stabF.und); rfl)
| ((with_reducible apply stabF.op); (case hs => first | exact tHT | exact tHS); case hv => exact tSV)
| ((with_reducible first | apply retF.r | apply retF.nn); case hv => exact tRS))
    all_goals exact ⟨to, tl, tr, H, hT, .refl _ _⟩
  · obtain ⟨w, hl1, hl2⟩ := H.l
    obtain rfl := hl2 hov
    have hfe := lfeed_call (w0 := w0) x.lid s.wait b tl tb (to :: tr :: R) h hl1 m2 hT.swap (by have := hb1 hov; omega)
    rw [hov] at hob
    have hb1 := hb1 hov
    have hb2 := hb2 hov
    have hok := hok hov
    repeat' (first
| ((with_reducible first | apply opsF.op rfl | apply dopsF.op rfl); case hs => first | exact tHT | exact tHS)
| (with_reducible first | apply opsF.nil | apply seqF.nn | apply vcF.seq | apply vcF.region | apply vcF.dregion | apply vcF.dalts | apply dallF.cons | apply dallF.nil | apply vcF.skip | apply vcF.block | apply vcF.exit | apply vcF.ret | apply vcF.loop | apply seqF.e | apply seqF.r | apply blkF.nn | apply blkF.e | apply blkF.r | apply blkF.o rfl | apply dopsF.nil | apply stabsF.nil | apply stabsF.cons | apply dopsF.cont)
| ((with_reducible first | apply opsF.call | apply dopsF.call); case hx => exact tAG)
| ((with_reducible first | apply opsF.want | apply dopsF.want | apply stabF.want); (case hg => exact tEV); case hb => exact tNB)
| ((with_reducible first | apply opsF.skip | apply dopsF.skip | apply stabF.skip); (case hg => exact tEV); case hb => exact tNB)
| (first | ((with_reducible first | apply opsF.case | apply dopsF.case); case hg => exact tEV) | ((with_reducible apply vcF.cond); case hx => exact tEV)) <;> ((intro hc; try simp only [Int.reduceLT, Int.reduceLE, Int.reduceEq, Int.reduceNe, Int.cast_ofNat_Int, Int.reduceNeg, reduceCtorEq, ne_eq, ge_iff_le, gt_iff_lt, beq_iff_eq, beq_eq_false_iff_ne, bne_iff_ne, bne_eq_false_iff_eq, nrm, *] at hc) <;> try (exfalso; omega))
| ((with_reducible first | apply opsF.und | apply dopsF.und); case hg => rfl)
| ((with_reducible apply stabF.und); rfl)
| ((with_reducible apply stabF.op); (case hs => first | exact tHT | exact tHS); case hv => exact tSV)
| ((with_reducible first | apply retF.r | apply retF.nn); case hv => exact tRS)
| ((refine hfe.mono fun v h1 hp => ?_); obtain ⟨tl1, ho1, hT1, hF1⟩ := hp; have H1 := H.newl hF1 ho1))
    clear hfe
    have k0 : FI (s.feed b) ({ s with wait := s.wait ++ b } : CS) ((s.wait ++ b).length + 1) := by
      refine ⟨⟨hz.host, hz.sndr, hz.tgs, hz.tgl⟩, .inr ⟨hov, rfl, ⟨hok.st, hok.p2, hok.p3, hok.tg⟩, by simp only [List.length_append]; omega, by simp only [List.length_append]; omega, ?_⟩⟩
      unfold CS.feed
      rw [if_neg (by rw [hov]; simp)]
      exact (congrArg (fun q : CS => ({ q with wait := (crlfS 512 [] (s.wait ++ b)).2 } : CS)) (lines_wait (s.wait ++ b) _ s)).symm
    refine LpF.ind rfl (fun i : Nat => i) (fun i σ hh => ∃ s1 to1 tl1 tr1, FI (s.feed b) s1 i ∧ FR2 x tt R h s1 to1 tl1 tr1 hh ∧ σ 0 = .ptr x.id 0) ?_ (i := (s.wait ++ b).length + 1)
      ⟨_, to, tl1, tr, k0, ⟨H1, hT1.swap, hF1.mono (fun i hi => by simp at hi; simp [CK.ids, hi])⟩, rfl⟩
    rintro i σ hh ⟨s1, to1, tl1, tr1, K, ⟨G, GT, GF⟩, g0⟩
    have gob := G.o
    unfold ccells at gob
    obtain ⟨p1, p2, p3, p4⟩ := G.lt
    rcases Bool.eq_false_or_eq_true s1.over with ho1 | ho1
    · have e : ∃ W, s.feed b = { s1 with wait := W } := by
        rcases K.k with ⟨_, _, W, e⟩ | ⟨e, _⟩
        · exact ⟨W, e⟩
        · rw [ho1] at e; cases e
      obtain ⟨W, e⟩ := e
      rw [e]
      have G2 := G.setw ho1 W
      rw [ho1] at gob
      clear hob K
      repeat' (first
| ((with_reducible first | apply opsF.op rfl | apply dopsF.op rfl); case hs => first | exact tHT | exact tHS)
| (with_reducible first | apply opsF.nil | apply seqF.nn | apply vcF.seq | apply vcF.region | apply vcF.dregion | apply vcF.dalts | apply dallF.cons | apply dallF.nil | apply vcF.skip | apply vcF.block | apply vcF.exit | apply vcF.ret | apply vcF.loop | apply seqF.e | apply seqF.r | apply blkF.nn | apply blkF.e | apply blkF.r | apply blkF.o rfl | apply dopsF.nil | apply stabsF.nil | apply stabsF.cons | apply dopsF.cont)
| ((with_reducible first | apply opsF.call | apply dopsF.call); case hx => exact tAG)
| ((with_reducible first | apply opsF.want | apply dopsF.want | apply stabF.want); (case hg => exact tEV); case hb => exact tNB)
| ((with_reducible first | apply opsF.skip | apply dopsF.skip | apply stabF.skip); (case hg => exact tEV); case hb => exact tNB)
| (first | ((with_reducible first | apply opsF.case | apply dopsF.case); case hg => exact tEV) | ((with_reducible apply vcF.cond); case hx => exact tEV)) <;> ((intro hc; try simp only [Int.reduceLT, Int.reduceLE, Int.reduceEq, Int.reduceNe, Int.cast_ofNat_Int, Int.reduceNeg, reduceCtorEq, ne_eq, ge_iff_le, gt_iff_lt, beq_iff_eq, beq_eq_false_iff_ne, bne_iff_ne, bne_eq_false_iff_eq, nrm, *] at hc) <;> try (exfalso; omega))
| ((with_reducible first | apply opsF.und | apply dopsF.und); case hg => rfl)
| ((with_reducible apply stabF.und); rfl)
| ((with_reducible apply stabF.op); (case hs => first | exact tHT | exact tHS); case hv => exact tSV)
| ((with_reducible first | apply retF.r | apply retF.nn); case hv => exact tRS))
      all_goals exact ⟨to1, tl1, tr1, G2, GT, GF⟩
    · obtain ⟨w1, gl1, gl2⟩ := G.l
      obtain rfl := gl2 ho1
      have hbnd : s1.wait.length ≤ 900000000 ∧ s.feed b = { s1.lines (crlfS 512 [] s1.wait).1 with wait := (crlfS 512 [] s1.wait).2 } ∧ s1.Ok2 ∧ s1.out.length + s1.wait.length ≤ 900000000 ∧ s1.nls + s1.wait.length ≤ 900000000 := by
        rcases K.k with ⟨e, _⟩ | ⟨_, _, k3, k4, k5, k6⟩
        · rw [ho1] at e; cases e
        · exact ⟨by omega, k6, k3, k4, k5⟩
      obtain ⟨b1, b2, b3, b4, b5⟩ := hbnd
      have hz1 := K.sz
      have hnx := lnext_call hM x.lid s1.wait tl1 (to1 :: tr1 :: R) 512 hh gl1 p2 GT.swap (by omega)
      rw [ho1] at gob
      cases hc : cutL s1.wait with
      | none =>
        rw [hc] at hnx
        dsimp only at hnx
        have hfin : s.feed b = s1 := by
          rw [b2, crlfS_cut, hc]
          rfl
        rw [hfin]
        clear hob K b2 hfin k0
        repeat' (first
| ((with_reducible first | apply opsF.op rfl | apply dopsF.op rfl); case hs => first | exact tHT | exact tHS)
| (with_reducible first | apply opsF.nil | apply seqF.nn | apply vcF.seq | apply vcF.region | apply vcF.dregion | apply vcF.dalts | apply dallF.cons | apply dallF.nil | apply vcF.skip | apply vcF.block | apply vcF.exit | apply vcF.ret | apply vcF.loop | apply seqF.e | apply seqF.r | apply blkF.nn | apply blkF.e | apply blkF.r | apply blkF.o rfl | apply dopsF.nil | apply stabsF.nil | apply stabsF.cons | apply dopsF.cont)
| ((with_reducible first | apply opsF.call | apply dopsF.call); case hx => exact tAG)
| ((with_reducible first | apply opsF.want | apply dopsF.want | apply stabF.want); (case hg => exact tEV); case hb => exact tNB)
| ((with_reducible first | apply opsF.skip | apply dopsF.skip | apply stabF.skip); (case hg => exact tEV); case hb => exact tNB)
| (first | ((with_reducible first | apply opsF.case | apply dopsF.case); case hg => exact tEV) | ((with_reducible apply vcF.cond); case hx => exact tEV)) <;> ((intro hc; try simp only [Int.reduceLT, Int.reduceLE, Int.reduceEq, Int.reduceNe, Int.cast_ofNat_Int, Int.reduceNeg, reduceCtorEq, ne_eq, ge_iff_le, gt_iff_lt, beq_iff_eq, beq_eq_false_iff_ne, bne_iff_ne, bne_eq_false_iff_eq, nrm, *] at hc) <;> try (exfalso; omega))
| ((with_reducible first | apply opsF.und | apply dopsF.und); case hg => rfl)
| ((with_reducible apply stabF.und); rfl)
| ((with_reducible apply stabF.op); (case hs => first | exact tHT | exact tHS); case hv => exact tSV)
| ((with_reducible first | apply retF.r | apply retF.nn); case hv => exact tRS)
| ((refine hnx.mono fun v h2 hp => ?_); obtain ⟨rfl, hE⟩ := hp))
        all_goals refine ⟨to1, tl1, tr1, G.ext (hE.trans ?_), GT.ext (hE.trans ?_), GF.trans (Fr.ext (hE.trans ?_))⟩
        all_goals exact (by repeat' (first | exact Ext.refl _ | (refine Ext.set ?_ (by first | exact Nat.le_refl _ | (simp only [alloc_n, set_n]; omega) | (simp only [alloc_n, set_n, drop_n]; omega)) _) | (refine Ext.trans ?_ (Ext.alloc _ _)) | (refine Ext.drop ?_ (by simp only [alloc_n, set_n, drop_n]; omega))))
      | some q =>
        obtain ⟨a, r⟩ := q
        rw [hc] at hnx
        dsimp only at hnx
        obtain ⟨m2, hm2, K2⟩ := K.round ho1 hc
        have hlen := cutL_len hc
        clear hob K b2 k0
        have hal : (lineS 512 a).2.length ≤ 1000000000 := by
          unfold lineS
          split
          · simp
          · split
            · simp
            · show a.length ≤ _; omega
        generalize (lineS 512 a).1 = lk at *
        generalize (lineS 512 a).2 = lt at *
        obtain ⟨s2, hs2⟩ : ∃ s2 : CS, s2 = { s1 with wait := r } := ⟨_, rfl⟩
        rw [← hs2, line_rep s2 lk lt] at K2
        have e2 : s2.over = false ∧ s2.nls = s1.nls ∧ s2.out = s1.out ∧ s2.Sz ∧ s2.Ok2 := by
          subst hs2
          exact ⟨ho1, rfl, rfl, ⟨hz1.host, hz1.sndr, hz1.tgs, hz1.tgl⟩, ⟨b3.st, b3.p2, b3.p3, b3.tg⟩⟩
        obtain ⟨q1, q2, q3, q4, q5⟩ := e2
        have hnl : ∀ {h' : AH} {t2 : Tok}, Fr [x.lid] hh h' → h'.objs x.lid = some (.cells [.list 1 (brows r) t2]) → ClO h' x s2 tt to1 t2 tr1 := fun hF ho => hs2 ▸ G.newl hF ho
        have hcr := fun t2 R h H hT => crep_call (w0 := w0) x s2 tt to1 t2 tr1 R lk lt h H hT (by omega) (by omega)
        obtain ⟨c3, n3, hs3⟩ := rep_same s2 lk lt
        have e3 : (s2.rep lk lt).1.over = false ∧ (s2.rep lk lt).1.out = s1.out ∧ (s2.rep lk lt).1.Sz ∧ (s2.rep lk lt).1.Ok2 := by
          rw [hs3]
          exact ⟨q1, q3, ⟨q4.host, q4.sndr, q4.tgs, q4.tgl⟩, ⟨q5.st, q5.p2, q5.p3, q5.tg⟩⟩
        clear hs3 c3 n3 hs2
        generalize s2.rep lk lt = rp at *
        obtain ⟨s3, wh, cd, er⟩ := rp
        dsimp only at *
        obtain ⟨r1, r2, r3, r4⟩ := e3
        repeat' (first
| (refine vcF.cut (a := .dalts _) (fun σ' h4 => ∃ L tk tr4 t2 id6, FR2 x tt R h s3 to1 t2 tr4 h4 ∧ σ' 0 = .ptr x.id 0 ∧ σ' 6 = .ptr id6 0 ∧ h4.objs id6 = some (.cells [.v (.int .i64 cd), .list 1 (srows L) tk]) ∧ σ' 7 = .v (.bool wh) ∧ σ' 8 = .v (.int .i64 er)) ?_ ?_)
| ((with_reducible first | apply opsF.op rfl | apply dopsF.op rfl); case hs => first | exact tHT | exact tHS)
| (with_reducible first | apply opsF.nil | apply seqF.nn | apply vcF.seq | apply vcF.region | apply vcF.dregion | apply vcF.dalts | apply dallF.cons | apply dallF.nil | apply vcF.skip | apply vcF.block | apply vcF.exit | apply vcF.ret | apply vcF.loop | apply seqF.e | apply seqF.r | apply blkF.nn | apply blkF.e | apply blkF.r | apply blkF.o rfl | apply dopsF.nil | apply stabsF.nil | apply stabsF.cons | apply dopsF.cont)
| ((with_reducible first | apply opsF.call | apply dopsF.call); case hx => exact tAG)
| ((with_reducible first | apply opsF.want | apply dopsF.want | apply stabF.want); (case hg => exact tEV); case hb => exact tNB)
| ((with_reducible first | apply opsF.skip | apply dopsF.skip | apply stabF.skip); (case hg => exact tEV); case hb => exact tNB)
| (first | ((with_reducible first | apply opsF.case | apply dopsF.case); case hg => exact tEV) | ((with_reducible apply vcF.cond); case hx => exact tEV)) <;> ((intro hc; try simp only [Int.reduceLT, Int.reduceLE, Int.reduceEq, Int.reduceNe, Int.cast_ofNat_Int, Int.reduceNeg, reduceCtorEq, ne_eq, ge_iff_le, gt_iff_lt, beq_iff_eq, beq_eq_false_iff_ne, bne_iff_ne, bne_eq_false_iff_eq, nrm, *] at hc) <;> try (exfalso; omega))
| ((with_reducible first | apply opsF.und | apply dopsF.und); case hg => rfl)
| ((with_reducible apply stabF.und); rfl)
| ((with_reducible apply stabF.op); (case hs => first | exact tHT | exact tHS); case hv => exact tSV)
| ((with_reducible first | apply retF.r | apply retF.nn); case hv => exact tRS)
| ((refine hnx.mono fun v h2 hp => ?_); obtain ⟨rfl, t2, ho2, hT2, hF2⟩ := hp; have G1 := hnl hF2 ho2; have gob1 := G1.o; unfold ccells at gob1; have z1 := G1.lt.1; have z2 := G1.lt.2.1; have z3 := G1.lt.2.2.1; have z4 := G1.lt.2.2.2)
| ((refine (hcr t2 (to1 :: t2 :: R) _ (G1.ext (by repeat' (first | exact Ext.refl _ | (refine Ext.set ?_ (by first | exact Nat.le_refl _ | (simp only [alloc_n, set_n]; omega) | (simp only [alloc_n, set_n, drop_n]; omega)) _) | (refine Ext.trans ?_ (Ext.alloc _ _)) | (refine Ext.drop ?_ (by simp only [alloc_n, set_n, drop_n]; omega))))) ((Toks.rot hT2).ext (by repeat' (first | exact Ext.refl _ | (refine Ext.set ?_ (by first | exact Nat.le_refl _ | (simp only [alloc_n, set_n]; omega) | (simp only [alloc_n, set_n, drop_n]; omega)) _) | (refine Ext.trans ?_ (Ext.alloc _ _)) | (refine Ext.drop ?_ (by simp only [alloc_n, set_n, drop_n]; omega)))))).mono fun v h3 hp => ?_); obtain ⟨L, tk, tr4, rfl, G3, T3, F3⟩ := hp; have gob3 := G3.o; unfold ccells at gob3; have oA := F3.o h2.n (by simp only [alloc_n, set_n]; omega) (by simp [CK.ids]; omega); simp (disch := omega) only [alloc_at, alloc_n, set_n, set_at, if_neg, if_pos, eq_self, if_true] at oA; have hN3 := F3.n; simp only [alloc_n, set_n] at hN3; have oB := fun hl => F3.o (h2.n + 1) hl (by simp [CK.ids]; omega); simp (disch := omega) only [alloc_at, alloc_n, set_n, set_at, if_neg, if_pos, eq_self, if_true, Nat.lt_add_one, forall_const, true_implies, Nat.lt_irrefl, false_implies] at oB))
        · refine ⟨L, tk, tr4, t2, h2.n + 1, ⟨G3.new _ (by simp only [alloc_n, set_n]; omega) _, (Toks.rot2 T3).set, ?_⟩, g0, rfl, by simp [set_at, alloc_n, set_n], rfl, rfl⟩
          refine ((GF.trans (hF2.mono (fun i hi => by simp at hi; simp [CK.ids, hi]))).trans ((Fr.ext (by repeat' (first | exact Ext.refl _ | (refine Ext.set ?_ (by first | exact Nat.le_refl _ | (simp only [alloc_n, set_n]; omega) | (simp only [alloc_n, set_n, drop_n]; omega)) _) | (refine Ext.trans ?_ (Ext.alloc _ _)) | (refine Ext.drop ?_ (by simp only [alloc_n, set_n, drop_n]; omega))))).trans F3)).set (.inr ?_) _
          have := GF.n
          have := hF2.n
          simp only [alloc_n, set_n]
          omega
        · refine ⟨L, tk, tr4, t2, h3.n, ⟨(G3.ext (by repeat' (first | exact Ext.refl _ | (refine Ext.set ?_ (by first | exact Nat.le_refl _ | (simp only [alloc_n, set_n]; omega) | (simp only [alloc_n, set_n, drop_n]; omega)) _) | (refine Ext.trans ?_ (Ext.alloc _ _)) | (refine Ext.drop ?_ (by simp only [alloc_n, set_n, drop_n]; omega))))).new _ (by have := G3.lt; omega) _, ((Toks.rot2 T3).ext (by repeat' (first | exact Ext.refl _ | (refine Ext.set ?_ (by first | exact Nat.le_refl _ | (simp only [alloc_n, set_n]; omega) | (simp only [alloc_n, set_n, drop_n]; omega)) _) | (refine Ext.trans ?_ (Ext.alloc _ _)) | (refine Ext.drop ?_ (by simp only [alloc_n, set_n, drop_n]; omega))))).set, ?_⟩, g0, rfl, by simp [set_at, alloc_n, set_n], rfl, rfl⟩
          refine (((GF.trans (hF2.mono (fun i hi => by simp at hi; simp [CK.ids, hi]))).trans ((Fr.ext (by repeat' (first | exact Ext.refl _ | (refine Ext.set ?_ (by first | exact Nat.le_refl _ | (simp only [alloc_n, set_n]; omega) | (simp only [alloc_n, set_n, drop_n]; omega)) _) | (refine Ext.trans ?_ (Ext.alloc _ _)) | (refine Ext.drop ?_ (by simp only [alloc_n, set_n, drop_n]; omega))))).trans F3)).alloc _).set (.inr ?_) _
          have := GF.n
          have := hF2.n
          omega
        · rintro σ' h4 ⟨L, tk, tr4, t4, id6, ⟨G4, T4, F4⟩, g0', g6, o6, g7, g8⟩
          have hlo := clost_call (w0 := w0) x s3 tt to1 t4 tr4 (t4 :: tr4 :: R) h4 G4 T4 r3
          have hta := ctake_call (w0 := w0) x s3 tt to1 t4 tr4 (t4 :: tr4 :: R) cd h4 G4 T4 r3 (by rw [r2]; omega) r4.st r4.p3 r4.tg
          clear hnx hcr gob
          by_cases her : er = 0
          · rw [if_neg (by simp [her])] at K2
            subst her
            cases wh with
            | true =>
              rw [if_pos rfl] at K2
              clear hlo
              repeat' (first
| ((with_reducible first | apply opsF.op rfl | apply dopsF.op rfl); case hs => first | exact tHT | exact tHS)
| (with_reducible first | apply opsF.nil | apply seqF.nn | apply vcF.seq | apply vcF.region | apply vcF.dregion | apply vcF.dalts | apply dallF.cons | apply dallF.nil | apply vcF.skip | apply vcF.block | apply vcF.exit | apply vcF.ret | apply vcF.loop | apply seqF.e | apply seqF.r | apply blkF.nn | apply blkF.e | apply blkF.r | apply blkF.o rfl | apply dopsF.nil | apply stabsF.nil | apply stabsF.cons | apply dopsF.cont)
| ((with_reducible first | apply opsF.call | apply dopsF.call); case hx => exact tAG)
| ((with_reducible first | apply opsF.want | apply dopsF.want | apply stabF.want); (case hg => exact tEV); case hb => exact tNB)
| ((with_reducible first | apply opsF.skip | apply dopsF.skip | apply stabF.skip); (case hg => exact tEV); case hb => exact tNB)
| (first | ((with_reducible first | apply opsF.case | apply dopsF.case); case hg => exact tEV) | ((with_reducible apply vcF.cond); case hx => exact tEV)) <;> ((intro hc; try simp only [Int.reduceLT, Int.reduceLE, Int.reduceEq, Int.reduceNe, Int.cast_ofNat_Int, Int.reduceNeg, reduceCtorEq, ne_eq, ge_iff_le, gt_iff_lt, beq_iff_eq, beq_eq_false_iff_ne, bne_iff_ne, bne_eq_false_iff_eq, nrm, *] at hc) <;> try (exfalso; omega))
| ((with_reducible first | apply opsF.und | apply dopsF.und); case hg => rfl)
| ((with_reducible apply stabF.und); rfl)
| ((with_reducible apply stabF.op); (case hs => first | exact tHT | exact tHS); case hv => exact tSV)
| ((with_reducible first | apply retF.r | apply retF.nn); case hv => exact tRS)
| ((refine hta.mono fun v h5 hp => ?_); obtain ⟨to5, G5, T5, F5⟩ := hp))
              all_goals exact ⟨m2, hm2, _, to5, t4, tr4, K2, ⟨G5, T5, F4.trans F5⟩, g0'⟩
            | false =>
              rw [if_neg (by simp)] at K2
              clear hlo hta
              repeat' (first
| ((with_reducible first | apply opsF.op rfl | apply dopsF.op rfl); case hs => first | exact tHT | exact tHS)
| (with_reducible first | apply opsF.nil | apply seqF.nn | apply vcF.seq | apply vcF.region | apply vcF.dregion | apply vcF.dalts | apply dallF.cons | apply dallF.nil | apply vcF.skip | apply vcF.block | apply vcF.exit | apply vcF.ret | apply vcF.loop | apply seqF.e | apply seqF.r | apply blkF.nn | apply blkF.e | apply blkF.r | apply blkF.o rfl | apply dopsF.nil | apply stabsF.nil | apply stabsF.cons | apply dopsF.cont)
| ((with_reducible first | apply opsF.call | apply dopsF.call); case hx => exact tAG)
| ((with_reducible first | apply opsF.want | apply dopsF.want | apply stabF.want); (case hg => exact tEV); case hb => exact tNB)
| ((with_reducible first | apply opsF.skip | apply dopsF.skip | apply stabF.skip); (case hg => exact tEV); case hb => exact tNB)
| (first | ((with_reducible first | apply opsF.case | apply dopsF.case); case hg => exact tEV) | ((with_reducible apply vcF.cond); case hx => exact tEV)) <;> ((intro hc; try simp only [Int.reduceLT, Int.reduceLE, Int.reduceEq, Int.reduceNe, Int.cast_ofNat_Int, Int.reduceNeg, reduceCtorEq, ne_eq, ge_iff_le, gt_iff_lt, beq_iff_eq, beq_eq_false_iff_ne, bne_iff_ne, bne_eq_false_iff_eq, nrm, *] at hc) <;> try (exfalso; omega))
| ((with_reducible first | apply opsF.und | apply dopsF.und); case hg => rfl)
| ((with_reducible apply stabF.und); rfl)
| ((with_reducible apply stabF.op); (case hs => first | exact tHT | exact tHS); case hv => exact tSV)
| ((with_reducible first | apply retF.r | apply retF.nn); case hv => exact tRS))
              all_goals exact ⟨m2, hm2, _, to1, t4, tr4, K2, ⟨G4, T4, F4⟩, g0'⟩
          · rw [if_pos her] at K2
            have hov3 : s3.lost.over = true := by unfold CS.lost; split <;> simp_all
            have e : ∃ W, s.feed b = { s3.lost with wait := W } := by
              rcases K2.k with ⟨_, _, W, e⟩ | ⟨e, _⟩
              · exact ⟨W, e⟩
              · rw [hov3] at e; cases e
            obtain ⟨W, e⟩ := e
            rw [e]
            clear hta K2 e
            repeat' (first
| ((with_reducible first | apply opsF.op rfl | apply dopsF.op rfl); case hs => first | exact tHT | exact tHS)
| (with_reducible first | apply opsF.nil | apply seqF.nn | apply vcF.seq | apply vcF.region | apply vcF.dregion | apply vcF.dalts | apply dallF.cons | apply dallF.nil | apply vcF.skip | apply vcF.block | apply vcF.exit | apply vcF.ret | apply vcF.loop | apply seqF.e | apply seqF.r | apply blkF.nn | apply blkF.e | apply blkF.r | apply blkF.o rfl | apply dopsF.nil | apply stabsF.nil | apply stabsF.cons | apply dopsF.cont)
| ((with_reducible first | apply opsF.call | apply dopsF.call); case hx => exact tAG)
| ((with_reducible first | apply opsF.want | apply dopsF.want | apply stabF.want); (case hg => exact tEV); case hb => exact tNB)
| ((with_reducible first | apply opsF.skip | apply dopsF.skip | apply stabF.skip); (case hg => exact tEV); case hb => exact tNB)
| (first | ((with_reducible first | apply opsF.case | apply dopsF.case); case hg => exact tEV) | ((with_reducible apply vcF.cond); case hx => exact tEV)) <;> ((intro hc; try simp only [Int.reduceLT, Int.reduceLE, Int.reduceEq, Int.reduceNe, Int.cast_ofNat_Int, Int.reduceNeg, reduceCtorEq, ne_eq, ge_iff_le, gt_iff_lt, beq_iff_eq, beq_eq_false_iff_ne, bne_iff_ne, bne_eq_false_iff_eq, nrm, *] at hc) <;> try (exfalso; omega))
| ((with_reducible first | apply opsF.und | apply dopsF.und); case hg => rfl)
| ((with_reducible apply stabF.und); rfl)
| ((with_reducible apply stabF.op); (case hs => first | exact tHT | exact tHS); case hv => exact tSV)
| ((with_reducible first | apply retF.r | apply retF.nn); case hv => exact tRS)
| ((refine hlo.mono fun v h5 hp => ?_); obtain ⟨to5, G5, T5, F5⟩ := hp))
            all_goals exact ⟨to5, t4, tr4, G5.setw hov3 W, T5, F4.trans F5⟩
end Go.Abs.F
