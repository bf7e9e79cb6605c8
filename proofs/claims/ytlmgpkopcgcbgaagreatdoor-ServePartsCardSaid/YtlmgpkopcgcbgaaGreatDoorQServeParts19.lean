/- What the proof needs, part 19: Library: bytes.Cut at the end of a line, bytes.Clone, bytes.IndexByte; Layer 2: a reader of lines. -/
import Derived.Test.YtlmgpkopcgcbgaaGreatDoorQServeParts14
import Derived.Test.YtlmgpkopcgcbgaaGreatDoorQServeParts11
import Derived.Test.YtlmgpkopcgcbgaaGreatDoorQServeParts18
import Derived.Shelf.Bytes.SlCut
import Derived.Shelf.Bytes.SlIndexAt
import Derived.Shelf.Bytes.IndexByte
import Derived.WalkSmall
/- Library: bytes.Cut at the end of a line, bytes.Clone, bytes.IndexByte. -/
namespace Go.Abs.F
open Go Go.Abs
set_option maxRecDepth 10000
set_option maxHeartbeats 20000000
set_option linter.unusedSimpArgs false
set_option linter.unusedVariables false
variable {w0 : World}
/-- Bytes at a place that never turn are a list. -/
theorem bsub {Γ : Con} {b o c : Nat} {l : L8} (hF : ∀ (i : Nat) (hi : i < l.length), Γ.F b (o + i) = some (.int .u8 (l[i].toNat : Int))) (hc : l.length ≤ c) : RV Γ (.list 1 (brows l) .no) (.slice (some ⟨b, o, none⟩) l.length c) := by
  have hl := brows_len l
  have := RV.mk_list (Γ := Γ) (sz := 1) (rows := brows l) (tok := .no) (b := b) (o := o) (c := c) (us := l.map fun x => .int .u8 (x.toNat : Int)) (by rw [hl]; exact hc)
    (fun r hr => by
      simp only [brows, List.mem_map] at hr
      obtain ⟨x, _, rfl⟩ := hr
      rfl)
    ⟨by rw [brows_flat]; simp [bcel], fun i h1 h2 => by
      simp only [brows_flat, bcel, List.getElem_map]
      exact .v _, fun x hx => by
      simp only [List.mem_map] at hx
      obtain ⟨y, _, rfl⟩ := hx
      rfl⟩
    (fun k hk => by
      rw [List.getElem_map]
      exact hF k (by simpa using hk)) trivial
  rwa [hl] at this
/-- A list of bytes is a slice; its bytes never turn. -/
theorem binv {Γ : Con} {l : L8} {tok : Tok} {y : Value} (h : RV Γ (.list 1 (brows l) tok) y) : (∃ base, y = .slice base 0 0 ∧ l = []) ∨ ∃ b o c, y = .slice (some ⟨b, o, none⟩) l.length c ∧ l.length ≤ c ∧ ∀ (i : Nat) (hi : i < l.length), Γ.F b (o + i) = some (.int .u8 (l[i].toNat : Int)) := by
  have hl := brows_len l
  rcases h.inv_list with ⟨base, rfl, hr, _⟩ | ⟨b, o, c, us, rfl, hc, hsz, hcs, hul, hF, _⟩
  · rw [hr] at hl
    exact .inl ⟨base, rfl, List.eq_nil_of_length_eq_zero hl.symm⟩
  · rw [hl] at hc
    refine .inr ⟨b, o, c, by rw [hl], hc, fun i hi => ?_⟩
    have h1 : i < us.length := by rw [hul, hl]; omega
    have h2 : i < (brows l).flatten.length := by rw [brows_flat, bcel_len]; exact hi
    rw [hF i h1]
    have := hcs.at_ i h2 h1
    simp only [brows_flat, bcel, List.getElem_map] at this
    rw [this.inv_v]
def cutV (w : L8) : AV := match cutL w with
  | none => .tup [.list 1 (brows w) .no, .list 1 [] .full, .v (.bool false)]
  | some (a, r) => .tup [.list 1 (brows a) .no, .list 1 (brows r) .no, .v (.bool true)]
theorem index_cut : ∀ w : L8, Lib.index w [13, 10] = match cutL w with
    | none => -1
    | some (a, _) => (a.length : Int)
  | [] => rfl
  | [x] => by
    have : ([13, 10] : L8).isPrefixOf [x] = false := by simp [List.isPrefixOf]
    rw [Lib.index, this]
    rfl
  | x :: y :: r => by
    rw [Lib.index, cutL]
    by_cases h : x = 13 ∧ y = 10
    · obtain ⟨rfl, rfl⟩ := h
      rw [if_pos (show ([13, 10] : L8).isPrefixOf (13 :: 10 :: r) = true by simp [List.isPrefixOf]), if_pos ⟨rfl, rfl⟩]
      rfl
    · have hp : ([13, 10] : L8).isPrefixOf (x :: y :: r) = false := by
        by_cases h1 : x = 13
        · have h2 : ¬ y = 10 := fun e => h ⟨h1, e⟩
          have h3 : ((10 : UInt8) == y) = false := by simpa using fun e => h2 (Eq.symm e)
          simp [List.isPrefixOf, h3]
        · have h3 : ((13 : UInt8) == x) = false := by simpa using fun e => h1 (Eq.symm e)
          simp [List.isPrefixOf, h3]
      rw [hp, if_neg h, if_neg (by simp), index_cut (y :: r)]
      cases cutL (y :: r) with
      | none => rfl
      | some p =>
        have : (((p.1.length : Nat) : Int) == -1) = false := by simp
        simp [this]
theorem bytesOf_nat (l : L8) : Lib.bytesOf (l.map fun b => (b.toNat : Int)) = l := by
  rw [Lib.bytesOf, List.map_map]
  conv => rhs; rw [← List.map_id l]
  exact List.map_congr_left fun b _ => u8_of b
theorem WR.drewN {Γ : Con} {h : AH} {w : World} (H : WR w0 Γ h w) (q : Nat) : WR w0 Γ h (w.drewN q) := H.grown (below_drewN (.refl _ _) q)
/-- internal/bytealg.MaxLen holds some number. -/
def MaxLen (w : World) : Prop := ∃ m, w.cell? ⟨0, 0, none⟩ = some (.int .i64 m)
theorem MaxLen.below {w0 w : World} {Γ : Con} {h : AH} (hM : MaxLen w0) (H : WR w0 Γ h w) : MaxLen w := by
  obtain ⟨m, hm⟩ := hM
  refine ⟨m, ?_⟩
  have hlt := World.block_lt_of_cell? w0 _ hm
  exact (World.cell?_of_block (H.below.block _ hlt)).trans hm
theorem bytesIn_of {w : World} {Γ : Con} {h : AH} (H : WR w0 Γ h w) {l : L8} {b o : Nat} (hF : ∀ (i : Nat) (hi : i < l.length), Γ.F b (o + i) = some (.int .u8 (l[i].toNat : Int))) : Lib.BytesIn w (some ⟨b, o, none⟩) l.length (l.map fun b => (b.toNat : Int)) := fun _ =>
  ⟨b, o, rfl, fun i hi => by
    rw [H.fcell (hF i hi)]
    simp [List.getD, List.getElem?_eq_getElem hi]⟩
theorem bcut_call (hM : MaxLen w0) (l : L8) (tok t2 : Tok) (h : AH) (hl : l.length < 4294967281) : Call P w0 bytes_Cut [.list 1 (brows l) tok, .list 1 (brows [13, 10]) t2] h (fun v h' => v = cutV l ∧ h' = h) := by
  refine ⟨⟨_, Go.Proofs.Tryz.func55, by kernel_rfl, by kernel_rfl⟩, fun Γ w us H hv => ?_⟩
  obtain ⟨y1, y2, rfl⟩ : ∃ y1 y2, us = [y1, y2] := by
    have hl := hv.len
    match us, hl with
    | [y1, y2], _ => exact ⟨y1, y2, rfl⟩
  have r1 := hv.at_ 0 (by simp) (by simp)
  have r2 := hv.at_ 1 (by simp) (by simp)
  simp only [List.getElem_cons_zero, List.getElem_cons_succ] at r1 r2
  obtain ⟨m, hm⟩ := hM.below H
  have hr : ∀ (l : L8), ∀ x ∈ l.map (fun b => (b.toNat : Int)), 0 ≤ x ∧ x < 256 := fun l x hx => by
    obtain ⟨b, _, rfl⟩ := List.mem_map.1 hx
    have := b.toNat_lt
    omega
  rcases binv r2 with ⟨_, _, h0⟩ | ⟨b2, o2, c2, rfl, hc2, hF2⟩
  · cases h0
  have hi := index_cut l
  have htwo : Lib.bytesOf (([13, 10] : L8).map fun b => (b.toNat : Int)) = [13, 10] := bytesOf_nat _
  rcases binv r1 with ⟨base, rfl, rfl⟩ | ⟨b1, o1, c1, rfl, hc1, hF1⟩
  · refine (Go.Proofs.Any.bytes_Cut_all Go.Proofs.Tryz.laysCut base (some ⟨b2, o2, none⟩) 0 0 2 c2 [] (([13, 10] : L8).map fun b => (b.toNat : Int)) m w rfl rfl (by simp) (hr _) (.nil w base []) (bytesIn_of H hF2) (fun _ => rfl) (Nat.le_refl _) (by omega) (by omega) hm).mono fun e w' hh => ?_
    obtain ⟨rfl, q, rfl⟩ := hh
    rw [htwo, show Lib.index (Lib.bytesOf []) [13, 10] = -1 from rfl]
    refine ⟨_, Γ, _, h, rfl, .refl Γ, ?_, WR.drewN H q, rfl, rfl⟩
    show RV Γ (.tup [.list 1 [] .no, .list 1 [] .full, .v (.bool false)]) (.tuple #[.slice base 0 0, .slice none 0 0, .bool false])
    refine .tup rfl fun i h1 h2 => ?_
    match i, h1 with
    | 0, _ => exact .niln
    | 1, _ => exact .nilf
    | 2, _ => exact .v _
  · refine (Go.Proofs.Any.bytes_Cut_all Go.Proofs.Tryz.laysCut (some ⟨b1, o1, none⟩) (some ⟨b2, o2, none⟩) l.length c1 2 c2 (l.map fun b => (b.toNat : Int)) (([13, 10] : L8).map fun b => (b.toNat : Int)) m w (by simp) rfl (hr _) (hr _) (bytesIn_of H hF1) (bytesIn_of H hF2) (fun e => by cases e) hc1 hl (by omega) hm).mono fun e w' hh => ?_
    obtain ⟨rfl, q, rfl⟩ := hh
    rw [htwo, bytesOf_nat, hi]
    unfold cutV
    cases hq : cutL l with
    | none =>
      refine ⟨_, Γ, _, h, rfl, .refl Γ, ?_, WR.drewN H q, rfl, rfl⟩
      show RV Γ (.tup [.list 1 (brows l) .no, .list 1 [] .full, .v (.bool false)]) (.tuple #[.slice (some ⟨b1, o1, none⟩) l.length c1, .slice none 0 0, .bool false])
      refine .tup rfl fun i h1 h2 => ?_
      match i, h1 with
      | 0, _ => exact bsub hF1 hc1
      | 1, _ => exact .nilf
      | 2, _ => exact .v _
    | some p =>
      obtain ⟨a, r⟩ := p
      have hs := cutL_some hq
      have hlen := cutL_len hq
      refine ⟨_, Γ, _, h, rfl, .refl Γ, ?_, WR.drewN H q, rfl, rfl⟩
      have hcv : Lib.cutV (some ⟨b1, o1, none⟩) l.length c1 2 ((a.length : Nat) : Int) = .tuple #[.slice (some ⟨b1, o1, none⟩) a.length c1, Lib.fromV (some ⟨b1, o1, none⟩) l.length c1 (a.length + 2), .bool true] := by
        unfold Lib.cutV
        rw [if_pos (by omega)]
        rfl
      show RV Γ (.tup [.list 1 (brows a) .no, .list 1 (brows r) .no, .v (.bool true)]) (Lib.cutV (some ⟨b1, o1, none⟩) l.length c1 2 ((a.length : Nat) : Int))
      rw [hcv]
      have hFa : ∀ (i : Nat) (hi : i < a.length), Γ.F b1 (o1 + i) = some (.int .u8 (a[i].toNat : Int)) := fun i hi => by
        rw [hF1 i (by omega)]
        have : l[i]'(by omega) = a[i] := by simp [hs, List.getElem_append_left, hi]
        rw [this]
      have hFr : ∀ (i : Nat) (hi : i < r.length), Γ.F b1 (o1 + (a.length + 2) + i) = some (.int .u8 (r[i].toNat : Int)) := fun i hi => by
        rw [show o1 + (a.length + 2) + i = o1 + (a.length + 2 + i) by omega, hF1 (a.length + 2 + i) (by omega)]
        have : l[a.length + 2 + i]'(by omega) = r[i] := by
          have e : l = (a ++ [13, 10]) ++ r := by rw [hs]; simp
          have := List.getElem?_append_right (l₁ := a ++ [13, 10]) (l₂ := r) (i := a.length + 2 + i) (by simp)
          rw [← e] at this
          rw [List.getElem?_eq_getElem (by omega)] at this
          have h3 : a.length + 2 + i - (a ++ [13, 10]).length = i := by simp
          rw [h3, List.getElem?_eq_getElem hi] at this
          exact Option.some.inj this
        rw [this]
      refine .tup rfl fun i h1 h2 => ?_
      match i, h1 with
      | 0, _ => exact bsub hFa (by omega)
      | 1, _ =>
        show RV Γ (.list 1 (brows r) .no) (Lib.fromV (some ⟨b1, o1, none⟩) l.length c1 (a.length + 2))
        unfold Lib.fromV
        have hrl : l.length - (a.length + 2) = r.length := by omega
        rw [hrl]
        by_cases hce : c1 = a.length + 2
        · have hr0 : r = [] := List.eq_nil_of_length_eq_zero (by omega)
          subst hr0
          rw [if_pos hce, hce, Nat.sub_self]
          exact .niln
        · rw [if_neg hce]
          exact bsub hFr (by omega)
      | 2, _ => exact .v _
theorem bclone_call (l : L8) (tok : Tok) (R : List Tok) (h : AH) (hT : Toks h R) (hl : l.length ≤ 100000000000) : Call P w0 bytes_Clone [.list 1 (brows l) tok] h (fun v h' => ∃ t', v = .list 1 (brows l) t' ∧ Toks h' (t' :: R) ∧ Ext h h') := by
  cases l with
  | nil =>
    refine ⟨⟨_, Go.Proofs.Tryz.func56, by kernel_rfl, by kernel_rfl⟩, fun Γ w us H hv => ?_⟩
    obtain ⟨y1, rfl⟩ : ∃ y1, us = [y1] := by
      have hl := hv.len
      match us, hl with
      | [y1], _ => exact ⟨y1, rfl⟩
    have r1 := hv.at_ 0 (by simp) (by simp)
    simp only [List.getElem_cons_zero] at r1
    obtain ⟨base, c, rfl⟩ : ∃ base c, y1 = .slice base 0 c := by
      rcases binv r1 with ⟨base, rfl, _⟩ | ⟨b, o, c, rfl, _⟩
      · exact ⟨_, _, rfl⟩
      · exact ⟨_, _, rfl⟩
    refine (Go.Proofs.YtlmgpkopcgcbgaaGreatDoorClz.clone_zero base c w).mono fun e w' hh => ?_
    obtain ⟨⟨b', rfl⟩, hb⟩ := hh
    exact ⟨_, Γ, _, h, rfl, .refl Γ, .nilf, H.grown hb, .full, rfl, hT.full, .refl h⟩
  | cons x l =>
    obtain ⟨t', h2, hap, hT2, h4, h5, h6⟩ := hT.full.app
    have hE : Ext h h2 := by
      obtain ⟨t1, h3, q1, q2, q3, q4, q5, q6⟩ := (show TokU h .full from trivial).app
      have : h3 = h2 := by
        have := q1.symm.trans hap
        simp only [Option.some.injEq, Prod.mk.injEq] at this
        exact this.2
      subst this
      exact Ext.transX (.refl h) q6 (fun _ x => x.elim) (fun t ht => by cases ht)
    have hb : brows (x :: l) = [.v (.int .u8 (x.toNat : Int))] :: brows l := rfl
    have hlen : (brows l).length = l.length := brows_len l
    refine Call.bodyF b_bytes_Clone rfl rfl ?_
    unfold c_bytes_Clone
    rw [hb]
    simp at hl
    repeat' (first
| ((with_reducible apply opsF.op rfl); case hs => first | exact tHT | exact tHS)
| (with_reducible first | apply opsF.nil | apply seqF.nn | apply vcF.seq | apply vcF.region | apply vcF.skip | apply vcF.ret | apply seqF.r)
| ((with_reducible apply opsF.call); case hx => exact tAG)
| ((with_reducible apply vcF.cond); case hx => exact tEV) <;> ((intro hc; try simp only [Int.reduceLT, Int.reduceLE, Int.reduceEq, Int.reduceNe, Int.cast_ofNat_Int, Int.reduceNeg, reduceCtorEq, ne_eq, ge_iff_le, gt_iff_lt, beq_iff_eq, beq_eq_false_iff_ne, bne_iff_ne, bne_eq_false_iff_eq, nrm, *] at hc) <;> try (exfalso; omega))
| ((with_reducible first | apply retF.r | apply retF.nn); case hv => exact tRS))
    all_goals exact ⟨_, rfl, hT2, hE⟩
theorem bidx_call (l : L8) (tok : Tok) (c : UInt8) (h : AH) : Call P w0 bytes_IndexByte [.list 1 (brows l) tok, .v (.int .u8 (c.toNat : Int))] h (fun v h' => v = .v (.int .i64 (Lib.indexByte l c)) ∧ h' = h) := by
  refine ⟨⟨_, Go.Proofs.Tryz.func57, by kernel_rfl, by kernel_rfl⟩, fun Γ w us H hv => ?_⟩
  obtain ⟨y1, y2, rfl⟩ : ∃ y1 y2, us = [y1, y2] := by
    have hl := hv.len
    match us, hl with
    | [y1, y2], _ => exact ⟨y1, y2, rfl⟩
  have r1 := hv.at_ 0 (by simp) (by simp)
  have r2 := hv.at_ 1 (by simp) (by simp)
  simp only [List.getElem_cons_zero, List.getElem_cons_succ] at r1 r2
  rw [r2.inv_v]
  have hcc : ((c.toNat : Int)).toNat.toUInt8 = c := u8_of c
  rcases binv r1 with ⟨base, rfl, rfl⟩ | ⟨b, o, cc, rfl, _, hF⟩
  · cases base with
    | none =>
      refine (Go.Proofs.Tryz.bytes_IndexByte_nil (c.toNat : Int) w).mono fun e w' hh => ?_
      obtain ⟨rfl, rfl⟩ := hh
      exact ⟨_, Γ, _, h, rfl, .refl Γ, .v _, H, rfl, rfl⟩
    | some a =>
      refine (Go.Proofs.Tryz.bytes_IndexByte_at a 0 0 [] (c.toNat : Int) w rfl (fun i hi => by omega)).mono fun e w' hh => ?_
      obtain ⟨rfl, rfl⟩ := hh
      exact ⟨_, Γ, _, h, rfl, .refl Γ, .v _, H, rfl, rfl⟩
  · refine (Go.Proofs.Tryz.bytes_IndexByte_at ⟨b, o, none⟩ l.length cc (l.map fun b => (b.toNat : Int)) (c.toNat : Int) w (by simp) (fun i hi => by
      rw [Go.WideShapes.add_plain, H.fcell (hF i hi)]
      simp [List.getD, List.getElem?_eq_getElem hi])).mono fun e w' hh => ?_
    obtain ⟨rfl, rfl⟩ := hh
    rw [bytesOf_nat, hcc]
    exact ⟨_, Γ, _, h, rfl, .refl Γ, .v _, H, rfl, rfl⟩
end Go.Abs.F
/- Layer 2: a reader of lines. -/
namespace Go.Abs.F
open Go Go.Abs
set_option maxRecDepth 10000
set_option maxHeartbeats 20000000
set_option linter.unusedSimpArgs false
set_option linter.unusedVariables false
variable {w0 : World}
theorem lnew_call (h : AH) : Call P w0 line_New [] h (fun v h' => v = .ptr h.n 0 ∧ h' = h.alloc (.cells [.list 1 [] .full])) := by
  refine Call.bodyF b_line_New rfl rfl ?_
  unfold c_line_New
  repeat' (first
| ((with_reducible apply opsF.op rfl); case hs => first | exact tHT | exact tHS)
| (with_reducible first | apply opsF.nil | apply seqF.nn | apply vcF.seq | apply vcF.region | apply vcF.skip | apply vcF.ret | apply seqF.r)
| ((with_reducible apply opsF.call); case hx => exact tAG)
| ((with_reducible apply vcF.cond); case hx => exact tEV) <;> ((intro hc; try simp only [Int.reduceLT, Int.reduceLE, Int.reduceEq, Int.reduceNe, Int.cast_ofNat_Int, Int.reduceNeg, reduceCtorEq, ne_eq, ge_iff_le, gt_iff_lt, beq_iff_eq, beq_eq_false_iff_ne, bne_iff_ne, bne_eq_false_iff_eq, nrm, *] at hc) <;> try (exfalso; omega))
| ((with_reducible first | apply retF.r | apply retF.nn); case hv => exact tRS))
  all_goals exact ⟨rfl, rfl⟩
theorem lfeed_call (lid : Nat) (w b : L8) (tw tb : Tok) (R : List Tok) (h : AH) (ho : h.objs lid = some (.cells [.list 1 (brows w) tw])) (hlt : lid < h.n) (hT : Toks h (tw :: R)) (hl : w.length + b.length ≤ 100000000000) :
    Call P w0 line_Reader_Feed [.ptr lid 0, .list 1 (brows b) tb] h (fun v h' => ∃ t', h'.objs lid = some (.cells [.list 1 (brows (w ++ b)) t']) ∧ Toks h' (t' :: R) ∧ Fr [lid] h h') := by
  have bl := brows_len
  refine Call.bodyF b_line_Reader_Feed rfl rfl ?_
  unfold c_line_Reader_Feed
  cases b with
  | nil =>
    repeat' (first
| ((with_reducible apply opsF.op rfl); case hs => first | exact tHT | exact tHS)
| (with_reducible first | apply opsF.nil | apply seqF.nn | apply vcF.seq | apply vcF.region | apply vcF.skip | apply vcF.ret | apply seqF.r)
| ((with_reducible apply opsF.call); case hx => exact tAG)
| ((with_reducible apply vcF.cond); case hx => exact tEV) <;> ((intro hc; try simp only [Int.reduceLT, Int.reduceLE, Int.reduceEq, Int.reduceNe, Int.cast_ofNat_Int, Int.reduceNeg, reduceCtorEq, ne_eq, ge_iff_le, gt_iff_lt, beq_iff_eq, beq_eq_false_iff_ne, bne_iff_ne, bne_eq_false_iff_eq, nrm, *] at hc) <;> try (exfalso; omega))
| ((with_reducible first | apply retF.r | apply retF.nn); case hv => exact tRS)
| ((with_reducible apply opsF.op rfl); (case hs => exact is_app0 tEV tEV rfl)))
    all_goals exact ⟨tw, by rw [set_at, if_pos rfl, List.append_nil], hT.set, (Fr.refl _ _).set (.inl (by simp)) _⟩
  | cons c r =>
    obtain ⟨t', h2, hap, hT2, h4, h5, h6⟩ := hT.app
    repeat' (first
| ((with_reducible apply opsF.op rfl); (case hs => exact is_appB tEV tEV (by simp) hap hl))
| ((with_reducible apply opsF.op rfl); case hs => first | exact tHT | exact tHS)
| (with_reducible first | apply opsF.nil | apply seqF.nn | apply vcF.seq | apply vcF.region | apply vcF.skip | apply vcF.ret | apply seqF.r)
| ((with_reducible apply opsF.call); case hx => exact tAG)
| ((with_reducible apply vcF.cond); case hx => exact tEV) <;> ((intro hc; try simp only [Int.reduceLT, Int.reduceLE, Int.reduceEq, Int.reduceNe, Int.cast_ofNat_Int, Int.reduceNeg, reduceCtorEq, ne_eq, ge_iff_le, gt_iff_lt, beq_iff_eq, beq_eq_false_iff_ne, bne_iff_ne, bne_eq_false_iff_eq, nrm, *] at hc) <;> try (exfalso; omega))
| ((with_reducible first | apply retF.r | apply retF.nn); case hv => exact tRS))
    all_goals exact ⟨t', by rw [set_at, if_pos rfl], hT2.set, ((Fr.refl [lid] h).app h4 h5 h6).set (.inl (by simp)) _⟩
theorem drop_at (h : AH) (i j : Nat) : (h.drop i).objs j = if j = i then none else h.objs j := rfl
theorem drop_n (h : AH) (i : Nat) : (h.drop i).n = h.n := rfl
theorem is_cvb {σ : Fm} {h : AH} {x : Opd} {id len : Nat} {cap : Option Nat} {cs : List AV} (hx : evF σ x = .row id 0 len cap) (ho : h.objs id = some (.cells cs)) (hl : len = cs.length) : istep (.cvb x) (evF σ) h = some (.list 1 (cs.map fun c => [c]) .no, h.drop id) := by
  simp only [istep, hx, ho]
  rw [if_pos (by simp [hl])]
theorem any_three (a : L8) : a.any (fun x => x = 0 || x = 10 || x = 13) = (a.contains 0 || a.contains 10 || a.contains 13) := by
  induction a with
  | nil => rfl
  | cons x a ih =>
    rw [List.any_cons, ih, List.contains_cons, List.contains_cons, List.contains_cons]
    have e : ∀ c : UInt8, (c == x) = decide (x = c) := fun c => by
      by_cases h : x = c
      · subst h; simp
      · simp [h]; exact fun e => h e.symm
    rw [e, e, e]
    generalize decide (x = 0) = p
    generalize decide (x = 10) = q
    generalize decide (x = 13) = r
    cases p <;> cases q <;> cases r <;> simp
theorem lnext_call (hM : MaxLen w0) (lid : Nat) (w : L8) (tw : Tok) (R : List Tok) (most : Int) (h : AH) (ho : h.objs lid = some (.cells [.list 1 (brows w) tw])) (hlt : lid < h.n) (hT : Toks h (tw :: R)) (hl : w.length ≤ 4000000000) :
    Call P w0 line_Reader_Next [.ptr lid 0, .v (.int .i64 most)] h (fun v h' => match cutL w with
      | none => v = .tup [.agg [.v (.int .i64 0), .v (.string (bs []))], .v (.bool false)] ∧ Ext h h'
      | some (a, r) => v = .tup [.agg [.v (.int .i64 (lineS most a).1), .v (.string (bs (lineS most a).2))], .v (.bool true)] ∧ ∃ t', h'.objs lid = some (.cells [.list 1 (brows r) t']) ∧ Toks h' (t' :: R) ∧ Fr [lid] h h') := by
  have hcut := fun tok t2 h => bcut_call hM w tok t2 h (by omega)
  have da := drop_at
  have dn := drop_n
  rw [show brows [13, 10] = [[AV.v (.int .u8 13)], [AV.v (.int .u8 10)]] from rfl] at hcut
  cases hq : cutL w with
  | none =>
    dsimp only
    simp only [cutV, hq] at hcut
    refine Call.bodyF b_line_Reader_Next rfl rfl ?_
    unfold c_line_Reader_Next
    repeat' (first
| ((with_reducible apply opsF.op rfl); case hs => first | exact tHT | exact tHS)
| (with_reducible first | apply opsF.nil | apply seqF.nn | apply vcF.seq | apply vcF.region | apply vcF.skip | apply vcF.block | apply vcF.exit | apply vcF.ret | apply vcF.loop | apply seqF.e | apply seqF.r | apply blkF.nn | apply blkF.e | apply blkF.r | apply blkF.o rfl)
| ((with_reducible apply opsF.call); case hx => exact tAG)
| ((with_reducible apply opsF.want); (case hg => exact tEV); case hb => exact tNB)
| ((with_reducible apply opsF.skip); (case hg => exact tEV); case hb => exact tNB)
| (first | ((with_reducible apply opsF.case); case hg => exact tEV) | ((with_reducible apply vcF.cond); case hx => exact tEV)) <;> ((intro hc; try simp only [Int.reduceLT, Int.reduceLE, Int.reduceEq, Int.reduceNe, Int.cast_ofNat_Int, Int.reduceNeg, reduceCtorEq, ne_eq, ge_iff_le, gt_iff_lt, beq_iff_eq, beq_eq_false_iff_ne, bne_iff_ne, bne_eq_false_iff_eq, nrm, *] at hc) <;> try (exfalso; omega))
| ((with_reducible apply opsF.und); case hg => rfl)
| ((with_reducible first | apply retF.r | apply retF.nn); case hv => exact tRS)
| ((with_reducible apply opsF.op rfl); (case hs => exact is_cvb tEV tHE (by rfl)))
| ((refine Call.use (hcut _ _ _) ?_)))
    all_goals exact ⟨rfl, (by repeat' (first | exact Ext.refl _ | (refine Ext.set ?_ (by first | exact Nat.le_refl _ | (simp only [alloc_n, set_n]; omega) | (simp only [alloc_n, set_n, drop_n]; omega)) _) | (refine Ext.trans ?_ (Ext.alloc _ _)) | (refine Ext.drop ?_ (by first | exact Nat.le_refl _ | (simp only [alloc_n, set_n, drop_n]; omega)))))⟩
  | some p =>
    obtain ⟨a, r⟩ := p
    dsimp only
    have hlen := cutL_len hq
    simp only [cutV, hq] at hcut
    have bl := brows_len
    have bi1 := fun tok h => bidx_call (w0 := w0) a tok 0 h
    have bi2 := fun tok h => bidx_call (w0 := w0) a tok 13 h
    have bi3 := fun tok h => bidx_call (w0 := w0) a tok 10 h
    have c1 := idx_ge (c := 0) (s := a)
    have c2 := idx_ge (c := 13) (s := a)
    have c3 := idx_ge (c := 10) (s := a)
    have hlS : lineS most a = if most < (a.length : Int) + 2 then (2, []) else if (decide (0 ≤ Lib.indexByte a 0) || decide (0 ≤ Lib.indexByte a 10) || decide (0 ≤ Lib.indexByte a 13)) = true then (3, []) else (1, a) := by
      rw [lineS, any_three, c1, c2, c3]
    rw [hlS]
    clear c1 c2 c3 hlS
    generalize Lib.indexByte a 0 = n1 at *
    generalize Lib.indexByte a 13 = n2 at *
    generalize Lib.indexByte a 10 = n3 at *
    refine Call.bodyF b_line_Reader_Next rfl rfl ?_
    unfold c_line_Reader_Next
    repeat' (first
| ((with_reducible apply opsF.op rfl); case hs => first | exact tHT | exact tHS)
| (with_reducible first | apply opsF.nil | apply seqF.nn | apply vcF.seq | apply vcF.region | apply vcF.skip | apply vcF.block | apply vcF.exit | apply vcF.ret | apply vcF.loop | apply seqF.e | apply seqF.r | apply blkF.nn | apply blkF.e | apply blkF.r | apply blkF.o rfl)
| ((with_reducible apply opsF.call); case hx => exact tAG)
| ((with_reducible apply opsF.want); (case hg => exact tEV); case hb => exact tNB)
| ((with_reducible apply opsF.skip); (case hg => exact tEV); case hb => exact tNB)
| (first | ((with_reducible apply opsF.case); case hg => exact tEV) | ((with_reducible apply vcF.cond); case hx => exact tEV)) <;> ((intro hc; try simp only [Int.reduceLT, Int.reduceLE, Int.reduceEq, Int.reduceNe, Int.cast_ofNat_Int, Int.reduceNeg, reduceCtorEq, ne_eq, ge_iff_le, gt_iff_lt, beq_iff_eq, beq_eq_false_iff_ne, bne_iff_ne, bne_eq_false_iff_eq, nrm, *] at hc) <;> try (exfalso; omega))
| ((with_reducible apply opsF.und); case hg => rfl)
| ((with_reducible first | apply retF.r | apply retF.nn); case hv => exact tRS)
| ((with_reducible apply opsF.op rfl); (case hs => exact is_cvb tEV tHE (by rfl)))
| ((refine Call.use (hcut _ _ _) ?_))
| ((refine (bclone_call r _ R _ (hT.tail.ext (by repeat' (first | exact Ext.refl _ | (refine Ext.set ?_ (by first | exact Nat.le_refl _ | (simp only [alloc_n, set_n]; omega) | (simp only [alloc_n, set_n, drop_n]; omega)) _) | (refine Ext.trans ?_ (Ext.alloc _ _)) | (refine Ext.drop ?_ (by first | exact Nat.le_refl _ | (simp only [alloc_n, set_n, drop_n]; omega)))))) (by omega)).mono fun v h3 hp => ?_); obtain ⟨t', rfl, hT3, hE3⟩ := hp; have hN := hE3.n; have hO := hE3.objs; simp only [drop_n, alloc_n, set_n] at hN hO; have ho1 := hO lid (by omega); have ho2 := hO h.n (by omega); have ho3 : Ext h h3 := Ext.trans (by repeat' (first | exact Ext.refl _ | (refine Ext.set ?_ (by first | exact Nat.le_refl _ | (simp only [alloc_n, set_n]; omega) | (simp only [alloc_n, set_n, drop_n]; omega)) _) | (refine Ext.trans ?_ (Ext.alloc _ _)) | (refine Ext.drop ?_ (by first | exact Nat.le_refl _ | (simp only [alloc_n, set_n, drop_n]; omega))))) hE3; simp (disch := omega) only [drop_at, alloc_at, alloc_n, set_at, if_neg, if_pos, eq_self, if_true, ho] at ho1 ho2)
| ((refine Call.use (bi1 _ _) ?_))
| ((refine Call.use (bi2 _ _) ?_))
| ((refine Call.use (bi3 _ _) ?_)))
    all_goals refine ⟨?_, t', ?_, ?_, ?_⟩
    all_goals first
      | exact ((Fr.ext ho3).set (.inl (by simp)) _).set (.inr (Nat.le_refl _)) _
      | exact hT3.set.set
      | (simp (disch := omega) only [set_at, if_neg, if_pos, eq_self, if_true]; done)
      | (rw [if_pos (by assumption)])
      | (rw [if_neg (by omega), if_pos (by simp; omega)])
      | (rw [if_neg (by omega), if_neg (by simp; omega)])
end Go.Abs.F
