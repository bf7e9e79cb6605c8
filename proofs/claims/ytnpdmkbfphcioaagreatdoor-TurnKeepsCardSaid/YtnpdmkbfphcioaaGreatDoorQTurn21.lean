/- What the proof needs, part 21: Shifts, and a byte put behind a number; Layer 12: the writer of bytes; Layer 12: the reader of bytes; Layer 12: lists of texts and of numbers; Layer 12: Encode; Layer 12: Decode of what Encode wrote; Layer 12: the document's bytes of a message; Layer 12: the document's bytes of a message, whole. -/
import Derived.Test.YtnpdmkbfphcioaaGreatDoorQTurn14
import Derived.Lib.EndianBits
import Derived.Test.YtnpdmkbfphcioaaGreatDoorQTurn15
import Derived.Test.YtnpdmkbfphcioaaGreatDoorQTurn16
import Derived.Test.YtnpdmkbfphcioaaGreatDoorQTurn19
import Derived.Test.YtnpdmkbfphcioaaGreatDoorQTurn11
import Derived.Test.YtnpdmkbfphcioaaGreatDoorQTurn20
/- Shifts, and a byte put behind a number. -/
namespace Go.Abs.F
open Go Go.Abs
set_option maxRecDepth 10000
set_option maxHeartbeats 20000000
set_option linter.unusedSimpArgs false
set_option linter.unusedVariables false
variable {w0 : World}
theorem is_shr {σ : Fm} {h : AH} {q : EqK} {x y : Opd} {k kb : IntKind} {a b c : Int} (hx : evF σ x = .v (.int k a)) (hy : evF σ y = .v (.int kb b)) (hb : 0 ≤ b ∧ b ≤ k.bits) (hw : a / 2 ^ b.toNat = c) : istep (.bin .shr q x y) (evF σ) h = some (.v (.int k c), h) := by
  simp [istep, hx, hy, abin, shiftBin, if_pos hb, hw]
theorem is_shl {σ : Fm} {h : AH} {q : EqK} {x y : Opd} {k kb : IntKind} {a b c : Int} (hx : evF σ x = .v (.int k a)) (hy : evF σ y = .v (.int kb b)) (hb : 0 ≤ b ∧ b ≤ k.bits) (hw : k.wrap (a * 2 ^ b.toNat) = c) : istep (.bin .shl q x y) (evF σ) h = some (.v (.int k c), h) := by
  simp [istep, hx, hy, abin, shiftBin, if_pos hb, hw]
theorem is_or {σ : Fm} {h : AH} {q : EqK} {x y : Opd} {k : IntKind} {a b c : Int} (hx : evF σ x = .v (.int k a)) (hy : evF σ y = .v (.int k b)) (hw : bits .or k a b = c) : istep (.bin .or q x y) (evF σ) h = some (.v (.int k c), h) := by
  simp [istep, hx, hy, abin, intBin, hw]
theorem i64_or8 {x y : Int} (hx0 : 0 ≤ x) (hx1 : x < 4611686018427387904) (hxm : x % 256 = 0) (hy0 : 0 ≤ y) (hy : y < 256) : bits .or .i64 x y = x + y :=
  bits_join .i64 63 (by decide) (fun n h0 h1 => by simp [IntKind.wrap, IntKind.bits, IntKind.signed]; omega) 8 x y hx0 (by simpa using hxm) (by omega) hy0 (by omega) (by omega)
theorem wrap8 {n : Int} : IntKind.u8.wrap n = n % 256 := by simp [IntKind.wrap, IntKind.bits, IntKind.signed]
theorem numW_get : ∀ (k n j : Nat), j < k → (numW k n)[j]? = some (UInt8.ofNat (n / 256 ^ (k - 1 - j) % 256))
  | 0, n, j, h => by omega
  | k + 1, n, j, h => by
    rw [numW]
    rcases Nat.lt_or_ge j k with h1 | h1
    · rw [List.getElem?_append_left (by rw [numW_len]; exact h1), numW_get k (n / 256) j h1]
      have : k + 1 - 1 - j = (k - 1 - j) + 1 := by omega
      rw [this, Nat.pow_succ, Nat.mul_comm, Nat.div_div_eq_div_mul]
    · obtain rfl : j = k := by omega
      rw [List.getElem?_append_right (by rw [numW_len]; exact Nat.le_refl _), numW_len]
      simp
end Go.Abs.F
/- Layer 12: the writer of bytes. -/
namespace Go.Abs.F
open Go Go.Abs
set_option maxRecDepth 10000
set_option maxHeartbeats 20000000
set_option linter.unusedSimpArgs false
set_option linter.unusedVariables false
variable {w0 : World}
/-- The object is a writer of these bytes; its row is its own or new since h0. -/
structure Wr (h0 h : AH) (id : Nat) (l : L8) : Prop where
  lt : id < h.n
  ge : h0.n ≤ id
  ext : Ext h0 h
  ob : ∃ tk, h.objs id = some (.cells [.list 1 (brows l) tk]) ∧ TokU h tk ∧ ∀ t, tk.owner = some t → h0.nt ≤ t
theorem Wr.app {h0 h h2 : AH} {id : Nat} {l l2 : L8} {tk tk1 : Tok} (hw : Wr h0 h id l) (hF : ∀ t, tk.owner = some t → h0.nt ≤ t) (hT2 : TokU h2 tk1) (hT3 : TokN h tk tk1) (hT4 : h2.objs = h.objs) (hT5 : h2.n = h.n) (hT6 : ExtX (fun _ => False) (fun t => tk.owner = some t) h h2) :
    Wr h0 (h2.set id (.cells [.list 1 (brows l2) tk1])) id l2 := by
  refine ⟨by simp only [set_n, hT5]; exact hw.lt, hw.ge, (Ext.transX hw.ext hT6 (fun _ x => x.elim) hF).set hw.ge _, tk1, by rw [set_at, if_pos rfl], hT2.set, fun t ht => ?_⟩
  rcases hT3 t ht with hz | hz
  · exact hF t hz
  · exact Nat.le_trans hw.ext.nt hz
theorem take_num {k n j : Nat} (h : j < k) : (numW k n).take (j + 1) = (numW k n).take j ++ [UInt8.ofNat (n / 256 ^ (k - 1 - j) % 256)] := by
  rw [List.take_add_one, numW_get k n j h]
  rfl
theorem pow8 (k : Nat) : (2 : Int) ^ (8 * k) = ((256 ^ k : Nat) : Int) := by
  rw [Int.natCast_pow, Int.pow_mul]
  rfl
theorem wnum_call (id : Nat) (h0 : AH) (pre : L8) (n size : Nat) (h : AH) (hw : Wr h0 h id pre) (hn : n ≤ 1099511627776) (hs : size ≤ 6) (hp : pre.length ≤ 1000000000) :
    Call P w0 bin_writer_num [.ptr id 0, .v (.int .i64 (n : Nat)), .v (.int .i64 (size : Nat))] h (fun v h' => Wr h0 h' id (pre ++ numW size n)) := by
  have bl := brows_len
  have hlen := numW_len size n
  refine Call.bodyF b_bin_writer_num rfl rfl ?_
  unfold c_bin_writer_num
  repeat' (first
| ((with_reducible apply opsF.op rfl); case hs => first | exact tHT | exact tHS)
| (with_reducible first | apply opsF.nil | apply seqF.nn | apply vcF.seq | apply vcF.region | apply vcF.skip | apply vcF.block | apply vcF.exit | apply vcF.ret | apply vcF.loop | apply seqF.e | apply seqF.r | apply blkF.nn | apply blkF.e | apply blkF.r | apply blkF.o rfl)
| ((with_reducible apply opsF.call); case hx => exact tAG)
| ((with_reducible apply vcF.cond); case hx => exact tEV) <;> ((intro hc; try simp only [Int.reduceLT, Int.reduceLE, Int.reduceEq, Int.reduceNe, Int.cast_ofNat_Int, Int.reduceNeg, reduceCtorEq, ne_eq, ge_iff_le, gt_iff_lt, beq_iff_eq, beq_eq_false_iff_ne, bne_iff_ne, bne_eq_false_iff_eq, nrm, *] at hc) <;> try (exfalso; omega))
| ((with_reducible first | apply retF.r | apply retF.nn); case hv => exact tRS))
  refine LpF.ind rfl (fun j : Nat => size - j) (fun j σ hh => Wr h0 hh id (pre ++ (numW size n).take j) ∧ σ 0 = .ptr id 0 ∧ σ 1 = .v (.int .i64 (n : Nat)) ∧ σ 6 = .v (.int .i64 ((size : Int) - 1 - j)) ∧ j ≤ size) ?_ (i := 0)
    ⟨by simpa using hw, rfl, rfl, by conv => lhs; whnf
                                     simp, Nat.zero_le _⟩
  rintro j σ hh ⟨hw, g0, g1, g6, hj⟩
  rcases Nat.lt_or_ge j size with hlt | hge
  · obtain ⟨k, hk⟩ : ∃ k : Nat, k = size - 1 - j := ⟨_, rfl⟩
    have hk2 : (size : Int) - 1 - j = (k : Int) := by omega
    have hk6 : k ≤ 5 := by omega
    rw [hk2] at g6
    obtain ⟨tk, ho, hT, hF⟩ := hw.ob
    have hwlt := hw.lt
    obtain ⟨tk1, h2, hap, hT2, hT3, hT4, hT5, hT6⟩ := hT.app
    have hpl : (pre ++ (numW size n).take j).length ≤ 1000000006 := by simp only [List.length_append, List.length_take, hlen]; omega
    have htk := take_num (n := n) hlt
    rw [← hk] at htk
    generalize hL : pre ++ (numW size n).take j = L at *
    have hsh : ((n : Int) / 2 ^ ((8 : Int) * (k : Int)).toNat) = ((n / 256 ^ k : Nat) : Int) := by
      rw [show ((8 : Int) * (k : Int)).toNat = 8 * k by omega, pow8]
      norm_cast
    have h8k : (0 : Int) ≤ 8 * (k : Int) ∧ 8 * (k : Int) ≤ (IntKind.i64.bits : Int) := by
      rw [show (IntKind.i64.bits : Int) = 64 from rfl]; omega
    have hcv : IntKind.u8.wrap ((n / 256 ^ k : Nat) : Int) = (((UInt8.ofNat (n / 256 ^ k % 256)).toNat : Nat) : Int) := by
      rw [wrap8, UInt8.toNat_ofNat']
      omega
    clear hk
    generalize hq : n / 256 ^ k = q at *
    repeat' (first
| ((with_reducible apply opsF.op rfl); case hs => first | exact tHT | exact tHS)
| (with_reducible first | apply opsF.nil | apply seqF.nn | apply vcF.seq | apply vcF.region | apply vcF.skip | apply vcF.block | apply vcF.exit | apply vcF.ret | apply vcF.loop | apply seqF.e | apply seqF.r | apply blkF.nn | apply blkF.e | apply blkF.r | apply blkF.o rfl)
| ((with_reducible apply opsF.call); case hx => exact tAG)
| ((with_reducible apply vcF.cond); case hx => exact tEV) <;> ((intro hc; try simp only [Int.reduceLT, Int.reduceLE, Int.reduceEq, Int.reduceNe, Int.cast_ofNat_Int, Int.reduceNeg, reduceCtorEq, ne_eq, ge_iff_le, gt_iff_lt, beq_iff_eq, beq_eq_false_iff_ne, bne_iff_ne, bne_eq_false_iff_eq, nrm, *] at hc) <;> try (exfalso; omega))
| ((with_reducible first | apply retF.r | apply retF.nn); case hv => exact tRS)
| ((with_reducible apply opsF.op rfl); (case hs => exact is_shr tEV tEV h8k hsh))
| ((with_reducible apply opsF.op rfl); (case hs => exact is_convI tEV hcv)))
    refine ⟨j + 1, by omega, ?_, g0, g1, ?_, by omega⟩
    · have e : pre ++ (numW size n).take (j + 1) = L ++ [UInt8.ofNat (q % 256)] := by rw [htk, ← List.append_assoc, hL]
      rw [e]
      have := Wr.app (l2 := L ++ [UInt8.ofNat (q % 256)]) hw hF hT2 hT3 hT4 hT5 hT6
      rw [brows_app] at this
      exact this
    · show AV.v (.int .i64 _) = AV.v (.int .i64 ((size : Int) - 1 - ((j + 1 : Nat) : Int)))
      congr 2
      omega
  · obtain rfl : j = size := by omega
    rw [List.take_of_length_le (by omega)] at hw
    repeat' (first
| ((with_reducible apply opsF.op rfl); case hs => first | exact tHT | exact tHS)
| (with_reducible first | apply opsF.nil | apply seqF.nn | apply vcF.seq | apply vcF.region | apply vcF.skip | apply vcF.block | apply vcF.exit | apply vcF.ret | apply vcF.loop | apply seqF.e | apply seqF.r | apply blkF.nn | apply blkF.e | apply blkF.r | apply blkF.o rfl)
| ((with_reducible apply opsF.call); case hx => exact tAG)
| ((with_reducible apply vcF.cond); case hx => exact tEV) <;> ((intro hc; try simp only [Int.reduceLT, Int.reduceLE, Int.reduceEq, Int.reduceNe, Int.cast_ofNat_Int, Int.reduceNeg, reduceCtorEq, ne_eq, ge_iff_le, gt_iff_lt, beq_iff_eq, beq_eq_false_iff_ne, bne_iff_ne, bne_eq_false_iff_eq, nrm, *] at hc) <;> try (exfalso; omega))
| ((with_reducible first | apply retF.r | apply retF.nn); case hv => exact tRS))
    all_goals exact hw
theorem app_str (L s : L8) (tk : Tok) (h : AH) (hT : TokU h tk) (hl : L.length + s.length ≤ 100000000000) : ∃ tk1 h2, (∀ (σ : Fm) (x y : Opd), evF σ x = .list 1 (brows L) tk → evF σ y = .v (.string (bs s)) → istep (.app 1 1 x y) (evF σ) h = some (.list 1 (brows (L ++ s)) tk1, h2)) ∧ TokU h2 tk1 ∧ TokN h tk tk1 ∧ h2.objs = h.objs ∧ h2.n = h.n ∧ ExtX (fun _ => False) (fun t => tk.owner = some t) h h2 := by
  have hsr : srcRows 1 h (.v (.string (bs s))) = some (brows s) := by simp [srcRows, byteRows_brows]
  cases s with
  | nil =>
    refine ⟨tk, h, fun σ x y hx hy => ?_, hT, fun t ht => .inl ht, rfl, rfl, ⟨Nat.le_refl _, Nat.le_refl _, fun _ _ _ => rfl, fun _ _ _ => rfl⟩⟩
    rw [List.append_nil]
    exact is_app0 hx hy hsr
  | cons c r =>
    obtain ⟨tk1, h2, hap, hT2, hT3, hT4, hT5, hT6⟩ := hT.app
    refine ⟨tk1, h2, fun σ x y hx hy => ?_, hT2, hT3, hT4, hT5, hT6⟩
    refine is_app (r := [.v (.int .u8 (c.toNat : Int))]) (new := brows r) hx hy hsr hap ?_ ?_
    · rw [brows_len, brows_len]
      simp at hl
      omega
    · rw [brows_app]; rfl
theorem wtext_call (id : Nat) (h0 : AH) (pre s : L8) (h : AH) (hw : Wr h0 h id pre) (hs : s.length ≤ 1000000) (hp : pre.length ≤ 900000000) :
    Call P w0 bin_writer_text [.ptr id 0, .v (.string (bs s))] h (fun v h' => Wr h0 h' id (pre ++ textB s)) := by
  have bl := brows_len
  have h2n : (2 : Int) = ((2 : Nat) : Int) := rfl
  have hn := wnum_call (w0 := w0) id h0 pre s.length 2 h hw (by omega) (by omega) (by omega)
  rw [← h2n] at hn
  refine Call.bodyF b_bin_writer_text rfl rfl ?_
  unfold c_bin_writer_text
  repeat' (first
| ((with_reducible apply opsF.op rfl); case hs => first | exact tHT | exact tHS)
| (with_reducible first | apply opsF.nil | apply seqF.nn | apply vcF.seq | apply vcF.region | apply vcF.skip | apply vcF.ret | apply seqF.r)
| ((with_reducible apply opsF.call); case hx => exact tAG)
| ((with_reducible apply vcF.cond); case hx => exact tEV) <;> ((intro hc; try simp only [Int.reduceLT, Int.reduceLE, Int.reduceEq, Int.reduceNe, Int.cast_ofNat_Int, Int.reduceNeg, reduceCtorEq, ne_eq, ge_iff_le, gt_iff_lt, beq_iff_eq, beq_eq_false_iff_ne, bne_iff_ne, bne_eq_false_iff_eq, nrm, *] at hc) <;> try (exfalso; omega))
| ((with_reducible first | apply retF.r | apply retF.nn); case hv => exact tRS)
| ((refine hn.mono fun v h1 hw1 => ?_); obtain ⟨tk, ho, hT, hF⟩ := hw1.ob; have hwlt := hw1.lt; obtain ⟨tk1, h2, happ, hT2, hT3, hT4, hT5, hT6⟩ := app_str (pre ++ numW 2 s.length) s tk h1 hT (by simp only [List.length_append, numW_len]; omega))
| ((with_reducible apply opsF.op rfl); (case hs => exact happ _ _ _ tEV tEV)))
  all_goals first
    | exact (Wr.app hw1 hF hT2 hT3 hT4 hT5 hT6)
    | (have e : pre ++ textB s = (pre ++ numW 2 s.length) ++ s := by simp [textB]
       rw [e]; exact (Wr.app hw1 hF hT2 hT3 hT4 hT5 hT6))
    | trace_state
end Go.Abs.F
/- Layer 12: the reader of bytes. -/
namespace Go.Abs.F
open Go Go.Abs
set_option maxRecDepth 10000
set_option maxHeartbeats 20000000
set_option linter.unusedSimpArgs false
set_option linter.unusedVariables false
variable {w0 : World}
def rdB (l : L8) : AObj := .cells [.list 1 (brows l) .no, .v (.bool false)]
theorem is_slL3 {σ : Fm} {h : AH} {x : Opd} {hi mx : Opd} {p s : L8} {tok : Tok} (hx : evF σ x = .list 1 (brows (p ++ s)) tok) (hh : evF σ hi = .v (.int .i64 (p.length : Nat))) (hm : evF σ mx = .v (.int .i64 (p.length : Nat))) :
    istep (.slL 1 x none (some hi) (some mx)) (evF σ) h = some (.list 1 (brows p) .full, h) := by
  have bl := brows_len
  have h1 : bnd (evF σ) (some hi) (brows (p ++ s)).length (brows (p ++ s)).length = some p.length := bnd_some hh (by rw [bl, List.length_append]; omega) (by omega)
  have h2 : bnd (evF σ) (some mx) 0 (brows (p ++ s)).length = some p.length := bnd_some hm (by rw [bl, List.length_append]; omega) (by omega)
  have h3 : ((brows (p ++ s)).drop 0).take (p.length - 0) = brows p := by
    rw [brows_app, List.drop_zero, Nat.sub_zero, List.take_left' (bl p)]
  simp only [istep, hx, if_true, h1, h2, bnd_none, h3, Nat.le_refl]
theorem brows_drop2 (p s : L8) : (brows (p ++ s)).drop p.length = brows s := by
  rw [brows_app, List.drop_left' (brows_len p)]
theorem take_call (id : Nat) (p s : L8) (h : AH) (hlt : id < h.n) (ho : h.objs id = some (rdB (p ++ s))) (hp : (p ++ s).length ≤ 1000000000) : Call P w0 bin_reader_take [.ptr id 0, .v (.int .i64 (p.length : Nat))] h (fun v h' => v = .list 1 (brows p) .full ∧ h' = h.set id (rdB s)) := by
  have bl := brows_len
  have hpl : ¬ (p.length : Int) > ((p ++ s).length : Nat) := by rw [List.length_append]; omega
  rw [List.length_append] at hp
  have hla : (p ++ s).length = p.length + s.length := List.length_append
  unfold rdB at ho
  refine Call.bodyF b_bin_reader_take rfl rfl ?_
  unfold c_bin_reader_take
  repeat' (first
| ((with_reducible apply opsF.op rfl); case hs => first | exact tHT | exact tHS)
| (with_reducible first | apply opsF.nil | apply seqF.nn | apply vcF.seq | apply vcF.region | apply vcF.skip | apply vcF.ret | apply seqF.r)
| ((with_reducible apply opsF.call); case hx => exact tAG)
| ((with_reducible apply opsF.want); (case hg => exact tEV); case hb => exact tNB)
| ((with_reducible apply opsF.skip); (case hg => exact tEV); case hb => exact tNB)
| (first | ((with_reducible apply opsF.case); case hg => exact tEV) | ((with_reducible apply vcF.cond); case hx => exact tEV)) <;> ((intro hc; try simp only [Int.reduceLT, Int.reduceLE, Int.reduceEq, Int.reduceNe, Int.cast_ofNat_Int, Int.reduceNeg, reduceCtorEq, ne_eq, ge_iff_le, gt_iff_lt, beq_iff_eq, beq_eq_false_iff_ne, bne_iff_ne, bne_eq_false_iff_eq, nrm, *] at hc) <;> try (exfalso; omega))
| ((with_reducible apply opsF.und); case hg => rfl)
| ((with_reducible first | apply retF.r | apply retF.nn); case hv => exact tRS)
| ((with_reducible apply opsF.op rfl); (case hs => exact is_slL3 tEV tEV tEV))
| ((with_reducible apply opsF.op rfl); (case hs => exact is_slL (rows' := brows s) (tok' := .no) (a := p.length) (b := (p ++ s).length) tEV (by rw [bl]; exact bnd_none) (bnd_some tEV (by omega) (by omega)) (by rw [brows_drop2]; exact List.take_of_length_le (by rw [bl]; omega)) (by rw [bl, if_pos rfl]))))
  all_goals (refine ⟨by rw [Nat.sub_zero, brows_app, List.take_left' (bl p)], ?_⟩; rw [brows_drop2, List.take_of_length_le (by rw [bl]; omega)]; rfl)
theorem valW_lt (l : L8) : valW 0 l < 256 ^ l.length := by
  have : ∀ (l : L8) (a : Nat), valW a l < (a + 1) * 256 ^ l.length := by
    intro l
    induction l with
    | nil => intro a; simp [valW]
    | cons c l ih =>
      intro a
      have h1 := ih (a * 256 + c.toNat)
      have h2 : valW a (c :: l) = valW (a * 256 + c.toNat) l := rfl
      rw [h2, List.length_cons, Nat.pow_succ]
      have h3 := c.toNat_lt
      have h4 : (a * 256 + c.toNat + 1) * 256 ^ l.length ≤ ((a + 1) * 256) * 256 ^ l.length := Nat.mul_le_mul_right _ (by omega)
      have h5 : (a + 1) * 256 * 256 ^ l.length = (a + 1) * (256 ^ l.length * 256) := by rw [Nat.mul_assoc, Nat.mul_comm 256]
      omega
  have h := this l 0
  omega
theorem bnum_call (id k n : Nat) (s : L8) (h : AH) (hlt : id < h.n) (ho : h.objs id = some (rdB (numW k n ++ s))) (hk : k ≤ 6) (hn : n < 256 ^ k) (hs : s.length ≤ 900000000) : Call P w0 bin_reader_num [.ptr id 0, .v (.int .i64 (k : Nat))] h (fun v h' => v = .v (.int .i64 (n : Nat)) ∧ h' = h.set id (rdB s)) := by
  have bl := brows_len
  have bg := brows_get
  have hlen := numW_len k n
  have hT := take_call (w0 := w0) id (numW k n) s h hlt ho (by rw [List.length_append, hlen]; omega)
  rw [hlen] at hT
  have hv := valW_num k n 0 hn
  rw [Nat.zero_mul, Nat.zero_add] at hv
  generalize numW k n = L at *
  refine Call.bodyF b_bin_reader_num rfl rfl ?_
  unfold c_bin_reader_num
  repeat' (first
| ((with_reducible apply opsF.op rfl); case hs => first | exact tHT | exact tHS)
| (with_reducible first | apply opsF.nil | apply seqF.nn | apply vcF.seq | apply vcF.region | apply vcF.skip | apply vcF.block | apply vcF.exit | apply vcF.ret | apply vcF.loop | apply seqF.e | apply seqF.r | apply blkF.nn | apply blkF.e | apply blkF.r | apply blkF.o rfl)
| ((with_reducible apply opsF.call); case hx => exact tAG)
| ((with_reducible apply vcF.cond); case hx => exact tEV) <;> ((intro hc; try simp only [Int.reduceLT, Int.reduceLE, Int.reduceEq, Int.reduceNe, Int.cast_ofNat_Int, Int.reduceNeg, reduceCtorEq, ne_eq, ge_iff_le, gt_iff_lt, beq_iff_eq, beq_eq_false_iff_ne, bne_iff_ne, bne_eq_false_iff_eq, nrm, *] at hc) <;> try (exfalso; omega))
| ((with_reducible first | apply retF.r | apply retF.nn); case hv => exact tRS)
| ((refine hT.mono fun v h1 hp => ?_); obtain ⟨rfl, rfl⟩ := hp))
  refine LpF.ind rfl (fun j : Nat => k - j) (fun j σ hh => hh = h.set id (rdB s) ∧ σ 5 = .v (.int .i64 (valW 0 (L.take j) : Nat)) ∧ σ 10 = .list 1 (brows L) .full ∧ σ 11 = .v (.int .i64 (k : Nat)) ∧ σ 12 = .v (.int .i64 (j : Nat)) ∧ j ≤ k) ?_ (i := 0)
    ⟨rfl, rfl, rfl, by first | rfl | (rw [← hlen, ← bl]; rfl), rfl, Nat.zero_le _⟩
  rintro j σ hh ⟨rfl, g5, g10, g11, g12, hj⟩
  rcases Nat.lt_or_ge j k with hlt2 | hge
  · obtain ⟨c, hc⟩ : ∃ c, L[j]? = some c := ⟨_, List.getElem?_eq_getElem (by omega)⟩
    have hst : valW 0 (L.take (j + 1)) = valW 0 (L.take j) * 256 + c.toNat := by
      rw [List.take_add_one, hc, Option.toList_some, valW_app]
      rfl
    have hb : valW 0 (L.take j) < 1099511627776 := by
      have h1 := valW_lt (L.take j)
      have h2 : (256 : Nat) ^ (L.take j).length ≤ 256 ^ 5 := Nat.pow_le_pow_right (by omega) (by rw [List.length_take]; omega)
      have h3 : (256 : Nat) ^ 5 = 1099511627776 := by decide
      omega
    have hcl := c.toNat_lt
    generalize valW 0 (L.take j) = V at *
    have hsh : IntKind.i64.wrap ((V : Int) * 2 ^ (8 : Int).toNat) = (V : Int) * 256 := by
      have e : (2 : Int) ^ (8 : Int).toNat = 256 := by decide
      rw [e]
      simp [IntKind.wrap, IntKind.bits, IntKind.signed]; omega
    have hor : bits .or .i64 ((V : Int) * 256) ((c.toNat : Nat) : Int) = ((V * 256 + c.toNat : Nat) : Int) := by
      rw [i64_or8 (by omega) (by omega) (by omega) (by omega) (by omega)]
      push_cast
      rfl
    have h8 : (0 : Int) ≤ 8 ∧ (8 : Int) ≤ (IntKind.i64.bits : Int) := by decide
    have hcv : IntKind.i64.wrap ((c.toNat : Nat) : Int) = ((c.toNat : Nat) : Int) := by
      simp [IntKind.wrap, IntKind.bits, IntKind.signed]; omega
    repeat' (first
| ((with_reducible apply opsF.op rfl); case hs => first | exact tHT | exact tHS)
| (with_reducible first | apply opsF.nil | apply seqF.nn | apply vcF.seq | apply vcF.region | apply vcF.skip | apply vcF.block | apply vcF.exit | apply vcF.ret | apply vcF.loop | apply seqF.e | apply seqF.r | apply blkF.nn | apply blkF.e | apply blkF.r | apply blkF.o rfl)
| ((with_reducible apply opsF.call); case hx => exact tAG)
| ((with_reducible apply vcF.cond); case hx => exact tEV) <;> ((intro hc; try simp only [Int.reduceLT, Int.reduceLE, Int.reduceEq, Int.reduceNe, Int.cast_ofNat_Int, Int.reduceNeg, reduceCtorEq, ne_eq, ge_iff_le, gt_iff_lt, beq_iff_eq, beq_eq_false_iff_ne, bne_iff_ne, bne_eq_false_iff_eq, nrm, *] at hc) <;> try (exfalso; omega))
| ((with_reducible first | apply retF.r | apply retF.nn); case hv => exact tRS)
| ((with_reducible apply opsF.op rfl); (case hs => exact is_shl tEV tEV h8 hsh))
| ((with_reducible apply opsF.op rfl); (case hs => exact is_convI tEV hcv))
| ((with_reducible apply opsF.op rfl); (case hs => exact is_or tEV tEV hor)))
    refine ⟨j + 1, by omega, rfl, ?_, g10, g11, rfl, by omega⟩
    rw [hst]
    show AV.v (.int .i64 (bits .or .i64 ((V : Int) * 2 ^ 8) ((c.toNat : Nat) : Int))) = _
    rw [show (V : Int) * 2 ^ 8 = (V : Int) * 256 from rfl, hor]
  · obtain rfl : j = k := by omega
    rw [List.take_of_length_le (by omega), hv] at g5
    repeat' (first
| ((with_reducible apply opsF.op rfl); case hs => first | exact tHT | exact tHS)
| (with_reducible first | apply opsF.nil | apply seqF.nn | apply vcF.seq | apply vcF.region | apply vcF.skip | apply vcF.block | apply vcF.exit | apply vcF.ret | apply vcF.loop | apply seqF.e | apply seqF.r | apply blkF.nn | apply blkF.e | apply blkF.r | apply blkF.o rfl)
| ((with_reducible apply opsF.call); case hx => exact tAG)
| ((with_reducible apply vcF.cond); case hx => exact tEV) <;> ((intro hc; try simp only [Int.reduceLT, Int.reduceLE, Int.reduceEq, Int.reduceNe, Int.cast_ofNat_Int, Int.reduceNeg, reduceCtorEq, ne_eq, ge_iff_le, gt_iff_lt, beq_iff_eq, beq_eq_false_iff_ne, bne_iff_ne, bne_eq_false_iff_eq, nrm, *] at hc) <;> try (exfalso; omega))
| ((with_reducible first | apply retF.r | apply retF.nn); case hv => exact tRS))
    all_goals exact ⟨rfl, rfl⟩
theorem bnum_lit (c : Int) (k : Nat) (hc : c = (k : Int)) (id n : Nat) (s : L8) (h : AH) (hlt : id < h.n) (ho : h.objs id = some (rdB (numW k n ++ s))) (hk : k ≤ 6) (hn : n < 256 ^ k) (hs : s.length ≤ 900000000) : Call P w0 bin_reader_num [.ptr id 0, .v (.int .i64 c)] h (fun v h' => v = .v (.int .i64 (n : Nat)) ∧ h' = h.set id (rdB s)) := by
  rw [hc]
  exact bnum_call id k n s h hlt ho hk hn hs
theorem btext_call (id : Nat) (t s : L8) (h : AH) (hlt : id < h.n) (ho : h.objs id = some (rdB (textB t ++ s))) (ht : t.length < 65536) (hs : s.length ≤ 800000000) : Call P w0 bin_reader_text [.ptr id 0] h (fun v h' => v = .v (.string (bs t)) ∧ h' = h.set id (rdB s)) := by
  have bl := brows_len
  have ho2 : h.objs id = some (rdB (numW 2 t.length ++ (t ++ s))) := by rw [ho]; simp [textB]
  have hN := bnum_lit (w0 := w0) 2 2 rfl id t.length (t ++ s) h hlt ho2 (by omega) (by omega) (by rw [List.length_append]; omega)
  have hT := take_call (w0 := w0) id t s (h.set id (rdB (t ++ s))) (by rw [set_n]; exact hlt) (by rw [set_at, if_pos rfl]) (by rw [List.length_append]; omega)
  rw [set_twice] at hT
  refine Call.bodyF b_bin_reader_text rfl rfl ?_
  unfold c_bin_reader_text
  repeat' (first
| ((with_reducible apply opsF.op rfl); case hs => first | exact tHT | exact tHS)
| (with_reducible first | apply opsF.nil | apply seqF.nn | apply vcF.seq | apply vcF.region | apply vcF.skip | apply vcF.ret | apply seqF.r)
| ((with_reducible apply opsF.call); case hx => exact tAG)
| ((with_reducible apply vcF.cond); case hx => exact tEV) <;> ((intro hc; try simp only [Int.reduceLT, Int.reduceLE, Int.reduceEq, Int.reduceNe, Int.cast_ofNat_Int, Int.reduceNeg, reduceCtorEq, ne_eq, ge_iff_le, gt_iff_lt, beq_iff_eq, beq_eq_false_iff_ne, bne_iff_ne, bne_eq_false_iff_eq, nrm, *] at hc) <;> try (exfalso; omega))
| ((with_reducible first | apply retF.r | apply retF.nn); case hv => exact tRS)
| ((refine hN.mono fun v h1 hp => ?_); obtain ⟨rfl, rfl⟩ := hp)
| ((refine hT.mono fun v h1 hp => ?_); obtain ⟨rfl, rfl⟩ := hp))
  all_goals exact ⟨rfl, rfl⟩
end Go.Abs.F
/- Layer 12: lists of texts and of numbers. -/
namespace Go.Abs.F
open Go Go.Abs
set_option maxRecDepth 10000
set_option maxHeartbeats 20000000
set_option linter.unusedSimpArgs false
set_option linter.unusedVariables false
variable {w0 : World}
theorem ExtX.transT {I T : Nat → Prop} {a b c : AH} (e : ExtX I (fun _ => False) a b) (k : ExtX (fun _ => False) T b c) (ht : ∀ t, T t → a.nt ≤ t) : ExtX I (fun _ => False) a c :=
  ⟨Nat.le_trans e.n k.n, Nat.le_trans e.nt k.nt, fun i hl hn => (k.objs i (Nat.lt_of_lt_of_le hl e.n) (fun x => x)).trans (e.objs i hl hn), fun t hl hn => (k.ver t (Nat.lt_of_lt_of_le hl e.nt) fun x => by have := ht t x; omega).trans (e.ver t hl hn)⟩
theorem b1_call (id : Nat) (k : Nat) (s : L8) (h : AH) (id2 : Nat) (hlt : id < h.n) (ho : h.objs id = some (rdB (numW 1 k ++ s))) (hk : k ≤ 2) (hs : s.length ≤ 800000000) (ho2 : h.objs id2 = some (.cells [.ptr id 0])) : Call P w0 bin_Decode_1 [.ptr id2 0] h (fun v h' => v = .v (.int .i64 (k : Nat)) ∧ h' = h.set id (rdB s)) := by
  have hN := bnum_lit (w0 := w0) 1 1 rfl id k s h hlt ho (by omega) (by omega) (by omega)
  refine Call.bodyF b_bin_Decode_1 rfl rfl ?_
  unfold c_bin_Decode_1
  repeat' (first
| ((with_reducible apply opsF.op rfl); case hs => first | exact tHT | exact tHS)
| (with_reducible first | apply opsF.nil | apply seqF.nn | apply vcF.seq | apply vcF.region | apply vcF.skip | apply vcF.ret | apply seqF.r)
| ((with_reducible apply opsF.call); case hx => exact tAG)
| ((with_reducible apply vcF.cond); case hx => exact tEV) <;> ((intro hc; try simp only [Int.reduceLT, Int.reduceLE, Int.reduceEq, Int.reduceNe, Int.cast_ofNat_Int, Int.reduceNeg, reduceCtorEq, ne_eq, ge_iff_le, gt_iff_lt, beq_iff_eq, beq_eq_false_iff_ne, bne_iff_ne, bne_eq_false_iff_eq, nrm, *] at hc) <;> try (exfalso; omega))
| ((with_reducible first | apply retF.r | apply retF.nn); case hv => exact tRS)
| ((refine hN.mono fun v h1 hp => ?_); obtain ⟨rfl, rfl⟩ := hp))
  all_goals exact ⟨rfl, rfl⟩
theorem textsB_app (l m : List L8) : textsB (l ++ m) = textsB l ++ textsB m := by
  induction l with
  | nil => rfl
  | cons x l ih => simp only [List.cons_append, textsB, ih, List.append_assoc]
theorem textsB_drop2 {l : List L8} {i : Nat} {x : L8} (hx : l[i]? = some x) : textsB (l.drop i) = textB x ++ textsB (l.drop (i + 1)) := by rw [drop_step hx, textsB]
def marksN : List Nat → L8
  | [] => []
  | k :: l => numW 1 k ++ marksN l
theorem marksN_app (l m : List Nat) : marksN (l ++ m) = marksN l ++ marksN m := by
  induction l with
  | nil => rfl
  | cons x l ih => simp only [List.cons_append, marksN, ih, List.append_assoc]
def nrows (l : List Nat) : List (List AV) := l.map fun n => [.v (.int .i64 (n : Nat))]
theorem nrows_len (l : List Nat) : (nrows l).length = l.length := by simp [nrows]
theorem nrows_app (l m : List Nat) : nrows (l ++ m) = nrows l ++ nrows m := by simp [nrows]
theorem blstr_call (id : Nat) (size : Nat) (c : Int) (hc : c = (size : Int)) (l : List L8) (s : L8) (h : AH) (hlt : id < h.n) (ho : h.objs id = some (rdB (numW size l.length ++ (textsB l ++ s)))) (hz : size ≤ 6) (hl : l.length ≤ 100000) (hll : l.length < 256 ^ size) (hx2 : ∀ t ∈ l, t.length < 65536) (hs : (textsB l ++ s).length ≤ 700000000) :
    Call P w0 bin_list_string [.ptr id 0, .v (.int .i64 c), .func (.func bin_reader_text) [.ptr id 0] []] h (fun v h' => (∃ tk, v = .list 1 (srows l) tk) ∧ ExtX (fun i => i = id) (fun _ => False) h h' ∧ h'.objs id = some (rdB s)) := by
  have rl := srows_len
  have hN := bnum_lit (w0 := w0) c size hc id l.length (textsB l ++ s) h hlt ho hz hll (by omega)
  clear hc
  refine Call.bodyF b_bin_list_string rfl rfl ?_
  unfold c_bin_list_string
  repeat' (first
| ((with_reducible apply opsF.op rfl); case hs => first | exact tHT | exact tHS)
| (with_reducible first | apply opsF.nil | apply seqF.nn | apply vcF.seq | apply vcF.region | apply vcF.skip | apply vcF.block | apply vcF.exit | apply vcF.ret | apply vcF.loop | apply seqF.e | apply seqF.r | apply blkF.nn | apply blkF.e | apply blkF.r | apply blkF.o rfl)
| ((with_reducible apply opsF.call); case hx => exact tAG)
| ((with_reducible apply opsF.want); (case hg => exact tEV); case hb => exact tNB)
| ((with_reducible apply opsF.skip); (case hg => exact tEV); case hb => exact tNB)
| (first | ((with_reducible apply opsF.case); case hg => exact tEV) | ((with_reducible apply vcF.cond); case hx => exact tEV)) <;> ((intro hc; try simp only [Int.reduceLT, Int.reduceLE, Int.reduceEq, Int.reduceNe, Int.cast_ofNat_Int, Int.reduceNeg, reduceCtorEq, ne_eq, ge_iff_le, gt_iff_lt, beq_iff_eq, beq_eq_false_iff_ne, bne_iff_ne, bne_eq_false_iff_eq, nrm, *] at hc) <;> try (exfalso; omega))
| ((with_reducible apply opsF.und); case hg => rfl)
| ((with_reducible apply opsF.callv); (case hf => exact tEV); case hx => exact tCV)
| ((with_reducible first | apply retF.r | apply retF.nn); case hv => exact tRS)
| ((refine hN.mono fun v h1 hp => ?_); obtain ⟨rfl, rfl⟩ := hp))
  clear hN
  refine LpF.ind rfl (fun i : Nat => l.length - i) (fun i σ hh => ∃ (tk : Tok), ExtX (fun i => i = id) (fun _ => False) h hh ∧ hh.objs id = some (rdB (textsB (l.drop i) ++ s)) ∧ σ 0 = .ptr id 0 ∧ σ 2 = .func (.func bin_reader_text) [.ptr id 0] [] ∧ σ 7 = .list 1 (srows (l.take i)) tk ∧ TokU hh tk ∧ (∀ t, tk.owner = some t → h.nt ≤ t) ∧ σ 8 = .v (.int .i64 ((l.length - i : Nat) : Int)) ∧ i ≤ l.length) ?_ (i := 0)
    ⟨.full, ExtX.set (I := fun i => i = id) (i := id) (ExtX.of (.refl h)) (.inl rfl) _, by rw [set_at, if_pos rfl]; rfl, rfl, rfl, rfl, trivial, (fun t ht => by cases ht), rfl, Nat.zero_le _⟩
  rintro i σ hh ⟨tk, hE, hO, g0, g2, g7, hT, hF, g8, hi⟩
  have hlt2 : id < hh.n := Nat.lt_of_lt_of_le hlt hE.n
  rcases Nat.lt_or_ge i l.length with hlt3 | hge
  · obtain ⟨x, hx⟩ : ∃ x, l[i]? = some x := ⟨_, List.getElem?_eq_getElem hlt3⟩
    have hxm := List.mem_of_getElem? hx
    have hxl := hx2 x hxm
    have hO1 : hh.objs id = some (rdB (textB x ++ (textsB (l.drop (i + 1)) ++ s))) := by rw [hO, textsB_drop2 hx]; simp
    have hd : (textsB (l.drop (i + 1)) ++ s).length ≤ 700000000 := by
      have e := congrArg List.length (textsB_drop2 hx)
      have e2 : textsB l = textsB (l.take i) ++ textsB (l.drop i) := by
        conv => lhs; rw [← List.take_append_drop i l]
        exact textsB_app _ _
      have e3 := congrArg List.length e2
      simp only [List.length_append] at e e3 hs ⊢
      omega
    have hC := btext_call (w0 := w0) id x (textsB (l.drop (i + 1)) ++ s) hh hlt2 hO1 hxl (by omega)
    have hfl : (l.take i).length = i := by rw [List.length_take]; omega
    have htk : l.take (i + 1) = l.take i ++ [x] := by rw [List.take_add_one, hx]; rfl
    obtain ⟨k, hk⟩ : ∃ k, l.length - i = k + 1 := ⟨l.length - i - 1, by omega⟩
    have hk2 : l.length - (i + 1) = k := by omega
    rw [hk] at g8
    obtain ⟨tk1, h2, hap, hT2, hT3, hT4, hT5, hT6⟩ := (hT.set (i := id) (o := rdB (textsB (l.drop (i + 1)) ++ s))).app
    have hO2 : h2.objs id = some (rdB (textsB (l.drop (i + 1)) ++ s)) := by rw [hT4, set_at, if_pos rfl]
    have hE2 := ExtX.transT (hE.set (i := id) (.inl rfl) (rdB (textsB (l.drop (i + 1)) ++ s))) hT6 hF
    generalize hR : textsB (l.drop (i + 1)) ++ s = R at *
    generalize l.take i = L at *
    rw [rdB] at hO
    clear hk hi
    repeat' (first
| ((with_reducible apply opsF.op rfl); case hs => first | exact tHT | exact tHS)
| (with_reducible first | apply opsF.nil | apply seqF.nn | apply vcF.seq | apply vcF.region | apply vcF.skip | apply vcF.block | apply vcF.exit | apply vcF.ret | apply vcF.loop | apply seqF.e | apply seqF.r | apply blkF.nn | apply blkF.e | apply blkF.r | apply blkF.o rfl)
| ((with_reducible apply opsF.call); case hx => exact tAG)
| ((with_reducible apply opsF.want); (case hg => exact tEV); case hb => exact tNB)
| ((with_reducible apply opsF.skip); (case hg => exact tEV); case hb => exact tNB)
| (first | ((with_reducible apply opsF.case); case hg => exact tEV) | ((with_reducible apply vcF.cond); case hx => exact tEV)) <;> ((intro hc; try simp only [Int.reduceLT, Int.reduceLE, Int.reduceEq, Int.reduceNe, Int.cast_ofNat_Int, Int.reduceNeg, reduceCtorEq, ne_eq, ge_iff_le, gt_iff_lt, beq_iff_eq, beq_eq_false_iff_ne, bne_iff_ne, bne_eq_false_iff_eq, nrm, *] at hc) <;> try (exfalso; omega))
| ((with_reducible apply opsF.und); case hg => rfl)
| ((with_reducible apply opsF.callv); (case hf => exact tEV); case hx => exact tCV)
| ((with_reducible first | apply retF.r | apply retF.nn); case hv => exact tRS)
| ((refine hC.mono fun v h1 hp => ?_); obtain ⟨rfl, rfl⟩ := hp))
    refine ⟨i + 1, by omega, tk1, hE2, (by rw [hR]; exact hO2), g0, g2, ?_, hT2, ?_, ?_, by omega⟩
    · conv => lhs; whnf
      rw [htk, srows_app]
      rfl
    · intro t ht
      rcases hT3 t ht with hz | hz
      · exact hF t hz
      · exact Nat.le_trans hE.nt hz
    · rw [hk2]
      show AV.v (.int .i64 _) = AV.v (.int .i64 ((k : Nat) : Int))
      congr 2
      omega
  · obtain rfl : i = l.length := by omega
    rw [List.take_length] at g7
    rw [List.drop_length] at hO
    rw [Nat.sub_self] at g8
    have hO2 : hh.objs id = some (rdB s) := hO
    rw [rdB] at hO
    repeat' (first
| ((with_reducible apply opsF.op rfl); case hs => first | exact tHT | exact tHS)
| (with_reducible first | apply opsF.nil | apply seqF.nn | apply vcF.seq | apply vcF.region | apply vcF.skip | apply vcF.block | apply vcF.exit | apply vcF.ret | apply vcF.loop | apply seqF.e | apply seqF.r | apply blkF.nn | apply blkF.e | apply blkF.r | apply blkF.o rfl)
| ((with_reducible apply opsF.call); case hx => exact tAG)
| ((with_reducible apply opsF.want); (case hg => exact tEV); case hb => exact tNB)
| ((with_reducible apply opsF.skip); (case hg => exact tEV); case hb => exact tNB)
| (first | ((with_reducible apply opsF.case); case hg => exact tEV) | ((with_reducible apply vcF.cond); case hx => exact tEV)) <;> ((intro hc; try simp only [Int.reduceLT, Int.reduceLE, Int.reduceEq, Int.reduceNe, Int.cast_ofNat_Int, Int.reduceNeg, reduceCtorEq, ne_eq, ge_iff_le, gt_iff_lt, beq_iff_eq, beq_eq_false_iff_ne, bne_iff_ne, bne_eq_false_iff_eq, nrm, *] at hc) <;> try (exfalso; omega))
| ((with_reducible apply opsF.und); case hg => rfl)
| ((with_reducible apply opsF.callv); (case hf => exact tEV); case hx => exact tCV)
| ((with_reducible first | apply retF.r | apply retF.nn); case hv => exact tRS))
    exact ⟨⟨tk, rfl⟩, hE, hO2⟩
theorem blint_call (id : Nat) (size : Nat) (c : Int) (hc : c = (size : Int)) (l : List Nat) (s : L8) (h : AH) (id2 : Nat) (hl2 : id2 < h.n) (hne : ¬ id2 = id) (hob : h.objs id2 = some (.cells [.ptr id 0])) (hlt : id < h.n) (ho : h.objs id = some (rdB (numW size l.length ++ (marksN l ++ s)))) (hz : size ≤ 6) (hl : l.length ≤ 100000) (hll : l.length < 256 ^ size) (hx2 : ∀ t ∈ l, t ≤ 2) (hs : (marksN l ++ s).length ≤ 700000000) :
    Call P w0 bin_list_int [.ptr id 0, .v (.int .i64 c), (.func (.func bin_Decode_1) [] [.ptr id2 0])] h (fun v h' => (∃ tk, v = .list 1 (nrows l) tk) ∧ ExtX (fun i => i = id) (fun _ => False) h h' ∧ h'.objs id = some (rdB s)) := by
  have rl := nrows_len
  have hN := bnum_lit (w0 := w0) c size hc id l.length (marksN l ++ s) h hlt ho hz hll (by omega)
  clear hc
  refine Call.bodyF b_bin_list_int rfl rfl ?_
  unfold c_bin_list_int
  repeat' (first
| ((with_reducible apply opsF.op rfl); case hs => first | exact tHT | exact tHS)
| (with_reducible first | apply opsF.nil | apply seqF.nn | apply vcF.seq | apply vcF.region | apply vcF.skip | apply vcF.block | apply vcF.exit | apply vcF.ret | apply vcF.loop | apply seqF.e | apply seqF.r | apply blkF.nn | apply blkF.e | apply blkF.r | apply blkF.o rfl)
| ((with_reducible apply opsF.call); case hx => exact tAG)
| ((with_reducible apply opsF.want); (case hg => exact tEV); case hb => exact tNB)
| ((with_reducible apply opsF.skip); (case hg => exact tEV); case hb => exact tNB)
| (first | ((with_reducible apply opsF.case); case hg => exact tEV) | ((with_reducible apply vcF.cond); case hx => exact tEV)) <;> ((intro hc; try simp only [Int.reduceLT, Int.reduceLE, Int.reduceEq, Int.reduceNe, Int.cast_ofNat_Int, Int.reduceNeg, reduceCtorEq, ne_eq, ge_iff_le, gt_iff_lt, beq_iff_eq, beq_eq_false_iff_ne, bne_iff_ne, bne_eq_false_iff_eq, nrm, *] at hc) <;> try (exfalso; omega))
| ((with_reducible apply opsF.und); case hg => rfl)
| ((with_reducible apply opsF.callv); (case hf => exact tEV); case hx => exact tCV)
| ((with_reducible first | apply retF.r | apply retF.nn); case hv => exact tRS)
| ((refine hN.mono fun v h1 hp => ?_); obtain ⟨rfl, rfl⟩ := hp))
  clear hN
  refine LpF.ind rfl (fun i : Nat => l.length - i) (fun i σ hh => ∃ (tk : Tok), ExtX (fun i => i = id) (fun _ => False) h hh ∧ hh.objs id = some (rdB (marksN (l.drop i) ++ s)) ∧ σ 0 = .ptr id 0 ∧ σ 2 = (.func (.func bin_Decode_1) [] [.ptr id2 0]) ∧ σ 7 = .list 1 (nrows (l.take i)) tk ∧ TokU hh tk ∧ (∀ t, tk.owner = some t → h.nt ≤ t) ∧ σ 8 = .v (.int .i64 ((l.length - i : Nat) : Int)) ∧ i ≤ l.length) ?_ (i := 0)
    ⟨.full, ExtX.set (I := fun i => i = id) (i := id) (ExtX.of (.refl h)) (.inl rfl) _, by rw [set_at, if_pos rfl]; rfl, rfl, rfl, rfl, trivial, (fun t ht => by cases ht), rfl, Nat.zero_le _⟩
  rintro i σ hh ⟨tk, hE, hO, g0, g2, g7, hT, hF, g8, hi⟩
  have hlt2 : id < hh.n := Nat.lt_of_lt_of_le hlt hE.n
  rcases Nat.lt_or_ge i l.length with hlt3 | hge
  · obtain ⟨x, hx⟩ : ∃ x, l[i]? = some x := ⟨_, List.getElem?_eq_getElem hlt3⟩
    have hxm := List.mem_of_getElem? hx
    have hxl := hx2 x hxm
    have hO1 : hh.objs id = some (rdB (numW 1 x ++ (marksN (l.drop (i + 1)) ++ s))) := by rw [hO, drop_step hx]; simp [marksN]
    have hd : (marksN (l.drop (i + 1)) ++ s).length ≤ 700000000 := by
      have e : (marksN (l.drop i)) = numW 1 x ++ marksN (l.drop (i + 1)) := by rw [drop_step hx]; rfl
      have e1 := congrArg List.length e
      have e2 : marksN l = marksN (l.take i) ++ marksN (l.drop i) := by
        conv => lhs; rw [← List.take_append_drop i l]
        exact marksN_app _ _
      have e3 := congrArg List.length e2
      simp only [List.length_append] at e1 e3 hs ⊢
      omega
    have ho2 : hh.objs id2 = some (.cells [.ptr id 0]) := (hE.objs id2 hl2 hne).trans hob
    have hC := b1_call (w0 := w0) id x (marksN (l.drop (i + 1)) ++ s) hh id2 hlt2 hO1 hxl (by omega) ho2
    have hfl : (l.take i).length = i := by rw [List.length_take]; omega
    have htk : l.take (i + 1) = l.take i ++ [x] := by rw [List.take_add_one, hx]; rfl
    obtain ⟨k, hk⟩ : ∃ k, l.length - i = k + 1 := ⟨l.length - i - 1, by omega⟩
    have hk2 : l.length - (i + 1) = k := by omega
    rw [hk] at g8
    obtain ⟨tk1, h2, hap, hT2, hT3, hT4, hT5, hT6⟩ := (hT.set (i := id) (o := rdB (marksN (l.drop (i + 1)) ++ s))).app
    have hO2 : h2.objs id = some (rdB (marksN (l.drop (i + 1)) ++ s)) := by rw [hT4, set_at, if_pos rfl]
    have hE2 := ExtX.transT (hE.set (i := id) (.inl rfl) (rdB (marksN (l.drop (i + 1)) ++ s))) hT6 hF
    generalize hR : marksN (l.drop (i + 1)) ++ s = R at *
    generalize l.take i = L at *
    rw [rdB] at hO
    clear hk hi
    repeat' (first
| ((with_reducible apply opsF.op rfl); case hs => first | exact tHT | exact tHS)
| (with_reducible first | apply opsF.nil | apply seqF.nn | apply vcF.seq | apply vcF.region | apply vcF.skip | apply vcF.block | apply vcF.exit | apply vcF.ret | apply vcF.loop | apply seqF.e | apply seqF.r | apply blkF.nn | apply blkF.e | apply blkF.r | apply blkF.o rfl)
| ((with_reducible apply opsF.call); case hx => exact tAG)
| ((with_reducible apply opsF.want); (case hg => exact tEV); case hb => exact tNB)
| ((with_reducible apply opsF.skip); (case hg => exact tEV); case hb => exact tNB)
| (first | ((with_reducible apply opsF.case); case hg => exact tEV) | ((with_reducible apply vcF.cond); case hx => exact tEV)) <;> ((intro hc; try simp only [Int.reduceLT, Int.reduceLE, Int.reduceEq, Int.reduceNe, Int.cast_ofNat_Int, Int.reduceNeg, reduceCtorEq, ne_eq, ge_iff_le, gt_iff_lt, beq_iff_eq, beq_eq_false_iff_ne, bne_iff_ne, bne_eq_false_iff_eq, nrm, *] at hc) <;> try (exfalso; omega))
| ((with_reducible apply opsF.und); case hg => rfl)
| ((with_reducible apply opsF.callv); (case hf => exact tEV); case hx => exact tCV)
| ((with_reducible first | apply retF.r | apply retF.nn); case hv => exact tRS)
| ((refine hC.mono fun v h1 hp => ?_); obtain ⟨rfl, rfl⟩ := hp))
    refine ⟨i + 1, by omega, tk1, hE2, (by rw [hR]; exact hO2), g0, g2, ?_, hT2, ?_, ?_, by omega⟩
    · conv => lhs; whnf
      rw [htk, nrows_app]
      rfl
    · intro t ht
      rcases hT3 t ht with hz | hz
      · exact hF t hz
      · exact Nat.le_trans hE.nt hz
    · rw [hk2]
      show AV.v (.int .i64 _) = AV.v (.int .i64 ((k : Nat) : Int))
      congr 2
      omega
  · obtain rfl : i = l.length := by omega
    rw [List.take_length] at g7
    rw [List.drop_length] at hO
    rw [Nat.sub_self] at g8
    have hO2 : hh.objs id = some (rdB s) := hO
    rw [rdB] at hO
    repeat' (first
| ((with_reducible apply opsF.op rfl); case hs => first | exact tHT | exact tHS)
| (with_reducible first | apply opsF.nil | apply seqF.nn | apply vcF.seq | apply vcF.region | apply vcF.skip | apply vcF.block | apply vcF.exit | apply vcF.ret | apply vcF.loop | apply seqF.e | apply seqF.r | apply blkF.nn | apply blkF.e | apply blkF.r | apply blkF.o rfl)
| ((with_reducible apply opsF.call); case hx => exact tAG)
| ((with_reducible apply opsF.want); (case hg => exact tEV); case hb => exact tNB)
| ((with_reducible apply opsF.skip); (case hg => exact tEV); case hb => exact tNB)
| (first | ((with_reducible apply opsF.case); case hg => exact tEV) | ((with_reducible apply vcF.cond); case hx => exact tEV)) <;> ((intro hc; try simp only [Int.reduceLT, Int.reduceLE, Int.reduceEq, Int.reduceNe, Int.cast_ofNat_Int, Int.reduceNeg, reduceCtorEq, ne_eq, ge_iff_le, gt_iff_lt, beq_iff_eq, beq_eq_false_iff_ne, bne_iff_ne, bne_eq_false_iff_eq, nrm, *] at hc) <;> try (exfalso; omega))
| ((with_reducible apply opsF.und); case hg => rfl)
| ((with_reducible apply opsF.callv); (case hf => exact tEV); case hx => exact tCV)
| ((with_reducible first | apply retF.r | apply retF.nn); case hv => exact tRS))
    exact ⟨⟨tk, rfl⟩, hE, hO2⟩
end Go.Abs.F
/- Layer 12: Encode. -/
namespace Go.Abs.F
open Go Go.Abs
set_option maxRecDepth 10000
set_option maxHeartbeats 20000000
set_option linter.unusedSimpArgs false
set_option linter.unusedVariables false
variable {w0 : World}
theorem wnum_lit (c : Int) (size : Nat) (hc : c = (size : Int)) (id : Nat) (h0 : AH) (pre : L8) (n : Nat) (h : AH) (hw : Wr h0 h id pre) (hn : n ≤ 1099511627776) (hs : size ≤ 6) (hp : pre.length ≤ 1000000000) :
    Call P w0 bin_writer_num [.ptr id 0, .v (.int .i64 (n : Nat)), .v (.int .i64 c)] h (fun v h' => Wr h0 h' id (pre ++ numW size n)) := by
  rw [hc]
  exact wnum_call id h0 pre n size h hw hn hs hp
def binV (m : Msg) : AV := if goodM m = true then .tup [.list 1 (brows (bytesM m)) .no, .v (.int .i64 0)] else .tup [.list 1 [] .full, .v (.int .i64 2)]
theorem textsB_len {l : List L8} {K : Nat} (h : ∀ s ∈ l, s.length ≤ K) : (textsB l).length ≤ l.length * (K + 6) := by
  induction l with
  | nil => simp [textsB]
  | cons x l ih =>
    have h1 := h x (by simp)
    have h2 := ih fun s hs => h s (by simp [hs])
    simp only [textsB, textB, List.length_append, List.length_cons, Nat.add_mul, numW_len]
    omega
theorem textsB_size (l : List L8) : (textsB l).length = bsizeS l := by
  induction l with
  | nil => rfl
  | cons x l ih => simp only [textsB, textB, List.length_append, numW_len, bsizeS, ih]; omega
theorem bytes_len {m : Msg} (hm : MOk m) (hg : goodM m = true) : (bytesM m).length ≤ 100000000 := by
  simp only [goodM, Bool.and_eq_true, bodyS, decide_eq_true_eq] at hg
  obtain ⟨⟨⟨⟨⟨⟨⟨_, _⟩, h1⟩, hr⟩, _⟩, hk⟩, _⟩, _, hb⟩ := hg
  have a1 := textsB_len hm.rs
  have m1 : m.2.2.2.2.2.2.1.length * (1000000 + 6) ≤ 20 * (1000000 + 6) := Nat.mul_le_mul_right _ hr
  have a2 := textsB_size m.2.2.2.2.2.2.2.2
  have hf := hm.f
  simp only [bytesM, List.length_append, textB, numW_len, List.length_cons, marksB, List.length_map, a2]
  omega
theorem textsB_drop {l : List L8} {i : Nat} {x : L8} (hx : l[i]? = some x) : textsB (l.drop i) = textB x ++ textsB (l.drop (i + 1)) := by rw [drop_step hx, textsB]
theorem marksB_drop {l : List Int} {i : Nat} {k : Nat} (hx : l[i]? = some (k : Int)) (hk : k ≤ 2) : marksB (l.drop i) = numW 1 k ++ marksB (l.drop (i + 1)) := by
  rw [drop_step hx]
  have : k % 256 = k := by omega
  simp [marksB, numW, this]
theorem time_le {n : Int} (h : timeS n = true) : ∃ k : Nat, n = (k : Int) ∧ k ≤ 1099511627776 := by
  simp only [timeS, Bool.and_eq_true, decide_eq_true_eq] at h
  exact ⟨n.toNat, by omega, by omega⟩
theorem bencode_raw (m : Msg) (t1 t2 t3 : Tok) (h : AH) (hm : MOk m) : Call P w0 bin_Encode [.agg (msgC m t1 t2 t3)] h (fun v h' => v.le (binV m) ∧ Ext h h') := by
  have hG := fun h => egood_call (w0 := w0) m t1 t2 t3 h hm
  have xl := srows_len
  have xg := srows_get
  have yl := irows_len
  have yg := irows_get
  rw [binV]
  refine Call.bodyF b_bin_Encode rfl rfl ?_
  unfold c_bin_Encode
  cases hg : goodM m with
  | false =>
    rw [hg] at hG
    obtain ⟨n1, n2, n3, n4, n5, f, rc, mk, bd⟩ := m
    unfold msgC at hG ⊢
    dsimp only at hG ⊢
    clear hg
    repeat' (first
| ((with_reducible apply opsF.op rfl); case hs => first | exact tHT | exact tHS)
| (with_reducible first | apply opsF.nil | apply seqF.nn | apply vcF.seq | apply vcF.region | apply vcF.skip | apply vcF.block | apply vcF.exit | apply vcF.ret | apply vcF.loop | apply seqF.e | apply seqF.r | apply blkF.nn | apply blkF.e | apply blkF.r | apply blkF.o rfl)
| ((with_reducible apply opsF.call); case hx => exact tAG)
| ((with_reducible apply vcF.cond); case hx => exact tEV) <;> ((intro hc; try simp only [Int.reduceLT, Int.reduceLE, Int.reduceEq, Int.reduceNe, Int.cast_ofNat_Int, Int.reduceNeg, reduceCtorEq, ne_eq, ge_iff_le, gt_iff_lt, beq_iff_eq, beq_eq_false_iff_ne, bne_iff_ne, bne_eq_false_iff_eq, nrm, *] at hc) <;> try (exfalso; omega))
| ((with_reducible first | apply retF.r | apply retF.nn); case hv => exact tRS)
| ((refine Call.use (hG _) ?_)))
    all_goals exact ⟨.refl _, Ext.alloc _ _⟩
  | true =>
    have htl := bytes_len hm hg
    rw [hg] at hG
    obtain ⟨n1, n2, n3, n4, n5, f, rc, mk, bd⟩ := m
    simp only [goodM, numsS, Bool.and_eq_true, decide_eq_true_eq] at hg
    obtain ⟨⟨⟨⟨⟨⟨⟨⟨⟨⟨⟨q1, q2⟩, q3⟩, q4⟩, q5⟩, _⟩, _⟩, _⟩, _⟩, _⟩, rm⟩, _⟩ := hg
    obtain ⟨a, rfl, ha⟩ := time_le q1
    obtain ⟨b, rfl, hb⟩ := time_le q2
    obtain ⟨c, rfl, hc⟩ := time_le q3
    obtain ⟨d, rfl, hd⟩ := time_le q4
    obtain ⟨e, rfl, he⟩ := time_le q5
    clear q1 q2 q3 q4 q5
    obtain ⟨zf, zr, zrs, zm, zb, zbs⟩ := hm
    simp only at zf zr zrs zm zb zbs
    have e1 := srows_len rc
    have e2 := irows_len mk
    have e3 := srows_len bd
    obtain ⟨T, hT⟩ : ∃ T, bytesM ((a : Int), (b : Int), (c : Int), (d : Int), (e : Int), f, rc, mk, bd) = T := ⟨_, rfl⟩
    rw [hT] at htl
    rw [if_pos rfl, hT]
    have hS : (((((((([2] ++ numW 6 a) ++ numW 6 b) ++ numW 6 c) ++ numW 6 d) ++ numW 6 e) ++ textB f) ++ numW 2 rc.length)) ++ (textsB rc ++ (numW 2 mk.length ++ (marksB mk ++ (numW 4 bd.length ++ textsB bd)))) = T := by
      rw [← hT]; simp [bytesM]
    have hSl := congrArg List.length hS
    simp only [List.length_append, List.length_nil, List.length_cons, numW_len] at hSl
    clear hT
    unfold msgC at hG ⊢
    dsimp only at hG ⊢
    obtain ⟨CS, hCS⟩ : ∃ CS, CS = [AV.v (.int .i64 (a : Int)), .v (.int .i64 (b : Int)), .v (.int .i64 (c : Int)), .v (.int .i64 (d : Int)), .v (.int .i64 (e : Int)), .v (.string (bs f)), .list 1 (srows rc) t1, .list 1 (irows mk) t2, .list 1 (srows bd) t3] := ⟨_, rfl⟩
    have hM : ((h.alloc (.cells CS)).alloc (.cells [.list 1 (brows [2]) .full])).objs h.n = some (.cells CS) := by simp [alloc_at, alloc_n]
    obtain ⟨H0, hH0, hX, hW⟩ : ∃ H0, H0 = h.alloc (.cells CS) ∧ H0.n = h.n + 1 ∧ Wr H0 ((h.alloc (.cells CS)).alloc (.cells [.list 1 (brows [2]) .full])) (h.n + 1) [2] := ⟨_, rfl, alloc_n _ _, ⟨by simp [alloc_n], by simp [alloc_n], Ext.alloc _ _, .full, by simp [alloc_at, alloc_n], trivial, fun t ht => by cases ht⟩⟩
    have hM0 : H0.objs h.n = some (.cells CS) := by rw [hH0]; simp [alloc_at, alloc_n]
    subst hCS
    repeat' (first
| ((with_reducible apply opsF.op rfl); case hs => first | exact tHT | exact tHS)
| (with_reducible first | apply opsF.nil | apply seqF.nn | apply vcF.seq | apply vcF.region | apply vcF.skip | apply vcF.block | apply vcF.exit | apply vcF.ret | apply vcF.loop | apply seqF.e | apply seqF.r | apply blkF.nn | apply blkF.e | apply blkF.r | apply blkF.o rfl)
| ((with_reducible apply opsF.call); case hx => exact tAG)
| ((with_reducible apply vcF.cond); case hx => exact tEV) <;> ((intro hc; try simp only [Int.reduceLT, Int.reduceLE, Int.reduceEq, Int.reduceNe, Int.cast_ofNat_Int, Int.reduceNeg, reduceCtorEq, ne_eq, ge_iff_le, gt_iff_lt, beq_iff_eq, beq_eq_false_iff_ne, bne_iff_ne, bne_eq_false_iff_eq, nrm, *] at hc) <;> try (exfalso; omega))
| ((with_reducible first | apply retF.r | apply retF.nn); case hv => exact tRS)
| ((refine Call.use (hG _) ?_)))
    repeat' (first
| ((with_reducible apply opsF.op rfl); case hs => first | exact tHT | exact tHS)
| (with_reducible first | apply opsF.nil | apply seqF.nn | apply vcF.seq | apply vcF.region | apply vcF.skip | apply vcF.block | apply vcF.exit | apply vcF.ret | apply vcF.loop | apply seqF.e | apply seqF.r | apply blkF.nn | apply blkF.e | apply blkF.r | apply blkF.o rfl)
| ((with_reducible apply opsF.call); case hx => exact tAG)
| ((with_reducible apply vcF.cond); case hx => exact tEV) <;> ((intro hc; try simp only [Int.reduceLT, Int.reduceLE, Int.reduceEq, Int.reduceNe, Int.cast_ofNat_Int, Int.reduceNeg, reduceCtorEq, ne_eq, ge_iff_le, gt_iff_lt, beq_iff_eq, beq_eq_false_iff_ne, bne_iff_ne, bne_eq_false_iff_eq, nrm, *] at hc) <;> try (exfalso; omega))
| ((with_reducible first | apply retF.r | apply retF.nn); case hv => exact tRS)
| with_reducible apply LpF.unfold rfl
| ((refine (wnum_lit 6 6 rfl (h.n + 1) H0 _ _ _ hW (by omega) (by omega) (by simp only [List.length_append, numW_len, List.length_cons, List.length_nil] <;> omega)).mono fun u h2 hp => ?_); replace hM := (hp.ext.objs h.n (by omega)).trans hM0; replace hW := hp; clear hp))
    repeat' (first
| ((with_reducible apply opsF.op rfl); case hs => first | exact tHT | exact tHS)
| (with_reducible first | apply opsF.nil | apply seqF.nn | apply vcF.seq | apply vcF.region | apply vcF.skip | apply vcF.block | apply vcF.exit | apply vcF.ret | apply vcF.loop | apply seqF.e | apply seqF.r | apply blkF.nn | apply blkF.e | apply blkF.r | apply blkF.o rfl)
| ((with_reducible apply opsF.call); case hx => exact tAG)
| ((with_reducible apply vcF.cond); case hx => exact tEV) <;> ((intro hc; try simp only [Int.reduceLT, Int.reduceLE, Int.reduceEq, Int.reduceNe, Int.cast_ofNat_Int, Int.reduceNeg, reduceCtorEq, ne_eq, ge_iff_le, gt_iff_lt, beq_iff_eq, beq_eq_false_iff_ne, bne_iff_ne, bne_eq_false_iff_eq, nrm, *] at hc) <;> try (exfalso; omega))
| ((with_reducible first | apply retF.r | apply retF.nn); case hv => exact tRS)
| ((refine (wnum_lit 2 2 rfl (h.n + 1) H0 _ _ _ hW (by omega) (by omega) (by simp only [List.length_append, numW_len, List.length_cons, List.length_nil] <;> omega)).mono fun u h2 hp => ?_); replace hM := (hp.ext.objs h.n (by omega)).trans hM0; replace hW := hp; clear hp)
| ((refine (wtext_call (h.n + 1) H0 _ _ _ hW (by omega) (by simp only [List.length_append, numW_len, List.length_cons, List.length_nil] <;> omega)).mono fun u h2 hp => ?_); replace hM := (hp.ext.objs h.n (by omega)).trans hM0; replace hW := hp; clear hp))
    clear hG hSl hc ha hb hd he
    refine LpF.ind rfl (fun i : Nat => rc.length - i) (fun i σ hh => ∃ (pre : L8), Wr H0 hh (h.n + 1) pre ∧ σ 1 = .ptr h.n 0 ∧ σ 4 = .ptr (h.n + 1) 0 ∧ σ 47 = .list 1 (srows rc) t1 ∧ σ 48 = .v (.int .i64 (rc.length : Nat)) ∧ σ 49 = .v (.int .i64 (i : Nat)) ∧ i ≤ rc.length ∧ pre ++ (textsB (rc.drop i) ++ (numW 2 mk.length ++ (marksB mk ++ (numW 4 bd.length ++ textsB bd)))) = T) ?_ (i := 0)
      ⟨_, hW, rfl, rfl, rfl, by first | rfl | (rw [← e1]; rfl), rfl, Nat.zero_le _, hS⟩
    clear hM hW hS
    rintro i σ hh ⟨pre, hW, g1, g4, g47, g48, g49, hi, hS⟩
    have hM := (hW.ext.objs h.n (by omega)).trans hM0
    rcases Nat.lt_or_ge i rc.length with hlt | hge
    · obtain ⟨x, hx⟩ : ∃ x, rc[i]? = some x := ⟨_, List.getElem?_eq_getElem hlt⟩
      have hxl := zrs x (List.mem_of_getElem? hx)
      have hS2 : (pre ++ textB x) ++ (textsB (rc.drop (i + 1)) ++ (numW 2 mk.length ++ (marksB mk ++ (numW 4 bd.length ++ textsB bd)))) = T := by rw [← hS, textsB_drop hx]; simp
      have hSl : pre.length ≤ 100000000 := by
        have := congrArg List.length hS2
        simp only [List.length_append] at this
        omega
      clear hS
      repeat' (first
| ((with_reducible apply opsF.op rfl); case hs => first | exact tHT | exact tHS)
| (with_reducible first | apply opsF.nil | apply seqF.nn | apply vcF.seq | apply vcF.region | apply vcF.skip | apply vcF.block | apply vcF.exit | apply vcF.ret | apply vcF.loop | apply seqF.e | apply seqF.r | apply blkF.nn | apply blkF.e | apply blkF.r | apply blkF.o rfl)
| ((with_reducible apply opsF.call); case hx => exact tAG)
| ((with_reducible apply vcF.cond); case hx => exact tEV) <;> ((intro hc; try simp only [Int.reduceLT, Int.reduceLE, Int.reduceEq, Int.reduceNe, Int.cast_ofNat_Int, Int.reduceNeg, reduceCtorEq, ne_eq, ge_iff_le, gt_iff_lt, beq_iff_eq, beq_eq_false_iff_ne, bne_iff_ne, bne_eq_false_iff_eq, nrm, *] at hc) <;> try (exfalso; omega))
| ((with_reducible first | apply retF.r | apply retF.nn); case hv => exact tRS)
| ((refine (wtext_call (h.n + 1) H0 _ _ _ hW (by omega) (by omega)).mono fun u h2 hp => ?_); replace hM := (hp.ext.objs h.n (by omega)).trans hM0; replace hW := hp; clear hp))
      exact ⟨i + 1, by omega, _, hW, g1, g4, g47, g48, rfl, by omega, hS2⟩
    · obtain rfl : i = rc.length := by omega
      rw [List.drop_length] at hS
      have hS2 : (pre ++ numW 2 mk.length) ++ (marksB mk ++ (numW 4 bd.length ++ textsB bd)) = T := by rw [← hS]; simp [textsB]
      have hSl : pre.length ≤ 100000000 := by
        have := congrArg List.length hS2
        simp only [List.length_append] at this
        omega
      clear hS
      repeat' (first
| ((with_reducible apply opsF.op rfl); case hs => first | exact tHT | exact tHS)
| (with_reducible first | apply opsF.nil | apply seqF.nn | apply vcF.seq | apply vcF.region | apply vcF.skip | apply vcF.block | apply vcF.exit | apply vcF.ret | apply vcF.loop | apply seqF.e | apply seqF.r | apply blkF.nn | apply blkF.e | apply blkF.r | apply blkF.o rfl)
| ((with_reducible apply opsF.call); case hx => exact tAG)
| ((with_reducible apply vcF.cond); case hx => exact tEV) <;> ((intro hc; try simp only [Int.reduceLT, Int.reduceLE, Int.reduceEq, Int.reduceNe, Int.cast_ofNat_Int, Int.reduceNeg, reduceCtorEq, ne_eq, ge_iff_le, gt_iff_lt, beq_iff_eq, beq_eq_false_iff_ne, bne_iff_ne, bne_eq_false_iff_eq, nrm, *] at hc) <;> try (exfalso; omega))
| ((with_reducible first | apply retF.r | apply retF.nn); case hv => exact tRS)
| ((refine (wnum_lit 2 2 rfl (h.n + 1) H0 _ _ _ hW (by omega) (by omega) (by omega)).mono fun u h2 hp => ?_); replace hM := (hp.ext.objs h.n (by omega)).trans hM0; replace hW := hp; clear hp))
      refine LpF.ind rfl (fun i : Nat => mk.length - i) (fun i σ hh => ∃ (pre : L8), Wr H0 hh (h.n + 1) pre ∧ σ 1 = .ptr h.n 0 ∧ σ 4 = .ptr (h.n + 1) 0 ∧ σ 63 = .list 1 (irows mk) t2 ∧ σ 64 = .v (.int .i64 (mk.length : Nat)) ∧ σ 65 = .v (.int .i64 (i : Nat)) ∧ i ≤ mk.length ∧ pre ++ (marksB (mk.drop i) ++ (numW 4 bd.length ++ textsB bd)) = T) ?_ (i := 0)
        ⟨_, hW, g1, g4, rfl, by first | rfl | (rw [← e2]; rfl), rfl, Nat.zero_le _, hS2⟩
      clear hM hW hS2 hSl g1 g4 g47 g48 g49
      rintro i σ hh ⟨pre, hW, g1, g4, g47, g48, g49, hi, hS⟩
      have hM := (hW.ext.objs h.n (by omega)).trans hM0
      rcases Nat.lt_or_ge i mk.length with hlt | hge
      · obtain ⟨x, hx⟩ : ∃ x, mk[i]? = some x := ⟨_, List.getElem?_eq_getElem hlt⟩
        have hmx : markS x = true := List.all_eq_true.1 rm x (List.mem_of_getElem? hx)
        simp only [markS, Bool.and_eq_true, decide_eq_true_eq] at hmx
        obtain ⟨k, rfl⟩ : ∃ k : Nat, x = (k : Int) := ⟨x.toNat, by omega⟩
        have hk : k ≤ 2 := by omega
        have hS2 : (pre ++ numW 1 k) ++ (marksB (mk.drop (i + 1)) ++ (numW 4 bd.length ++ textsB bd)) = T := by rw [← hS, marksB_drop hx hk]; simp
        have hSl : pre.length ≤ 100000000 := by
          have := congrArg List.length hS2
          simp only [List.length_append] at this
          omega
        clear hS
        repeat' (first
| ((with_reducible apply opsF.op rfl); case hs => first | exact tHT | exact tHS)
| (with_reducible first | apply opsF.nil | apply seqF.nn | apply vcF.seq | apply vcF.region | apply vcF.skip | apply vcF.block | apply vcF.exit | apply vcF.ret | apply vcF.loop | apply seqF.e | apply seqF.r | apply blkF.nn | apply blkF.e | apply blkF.r | apply blkF.o rfl)
| ((with_reducible apply opsF.call); case hx => exact tAG)
| ((with_reducible apply vcF.cond); case hx => exact tEV) <;> ((intro hc; try simp only [Int.reduceLT, Int.reduceLE, Int.reduceEq, Int.reduceNe, Int.cast_ofNat_Int, Int.reduceNeg, reduceCtorEq, ne_eq, ge_iff_le, gt_iff_lt, beq_iff_eq, beq_eq_false_iff_ne, bne_iff_ne, bne_eq_false_iff_eq, nrm, *] at hc) <;> try (exfalso; omega))
| ((with_reducible first | apply retF.r | apply retF.nn); case hv => exact tRS)
| ((refine (wnum_lit 1 1 rfl (h.n + 1) H0 _ _ _ hW (by omega) (by omega) (by omega)).mono fun u h2 hp => ?_); replace hM := (hp.ext.objs h.n (by omega)).trans hM0; replace hW := hp; clear hp))
        exact ⟨i + 1, by omega, _, hW, g1, g4, g47, g48, rfl, by omega, hS2⟩
      · obtain rfl : i = mk.length := by omega
        rw [List.drop_length] at hS
        have hS2 : (pre ++ numW 4 bd.length) ++ textsB bd = T := by rw [← hS]; simp [marksB]
        have hSl : pre.length ≤ 100000000 := by
          have := congrArg List.length hS2
          simp only [List.length_append] at this
          omega
        clear hS
        repeat' (first
| ((with_reducible apply opsF.op rfl); case hs => first | exact tHT | exact tHS)
| (with_reducible first | apply opsF.nil | apply seqF.nn | apply vcF.seq | apply vcF.region | apply vcF.skip | apply vcF.block | apply vcF.exit | apply vcF.ret | apply vcF.loop | apply seqF.e | apply seqF.r | apply blkF.nn | apply blkF.e | apply blkF.r | apply blkF.o rfl)
| ((with_reducible apply opsF.call); case hx => exact tAG)
| ((with_reducible apply vcF.cond); case hx => exact tEV) <;> ((intro hc; try simp only [Int.reduceLT, Int.reduceLE, Int.reduceEq, Int.reduceNe, Int.cast_ofNat_Int, Int.reduceNeg, reduceCtorEq, ne_eq, ge_iff_le, gt_iff_lt, beq_iff_eq, beq_eq_false_iff_ne, bne_iff_ne, bne_eq_false_iff_eq, nrm, *] at hc) <;> try (exfalso; omega))
| ((with_reducible first | apply retF.r | apply retF.nn); case hv => exact tRS)
| ((refine (wnum_lit 4 4 rfl (h.n + 1) H0 _ _ _ hW (by omega) (by omega) (by omega)).mono fun u h2 hp => ?_); replace hM := (hp.ext.objs h.n (by omega)).trans hM0; replace hW := hp; clear hp))
        refine LpF.ind rfl (fun i : Nat => bd.length - i) (fun i σ hh => ∃ (pre : L8), Wr H0 hh (h.n + 1) pre ∧ σ 1 = .ptr h.n 0 ∧ σ 4 = .ptr (h.n + 1) 0 ∧ σ 79 = .list 1 (srows bd) t3 ∧ σ 80 = .v (.int .i64 (bd.length : Nat)) ∧ σ 81 = .v (.int .i64 (i : Nat)) ∧ i ≤ bd.length ∧ pre ++ textsB (bd.drop i) = T) ?_ (i := 0)
          ⟨_, hW, g1, g4, rfl, by first | rfl | (rw [← e3]; rfl), rfl, Nat.zero_le _, hS2⟩
        clear hM hW hS2 hSl g1 g4 g47 g48 g49
        rintro i σ hh ⟨pre, hW, g1, g4, g47, g48, g49, hi, hS⟩
        have hM := (hW.ext.objs h.n (by omega)).trans hM0
        rcases Nat.lt_or_ge i bd.length with hlt | hge
        · obtain ⟨x, hx⟩ : ∃ x, bd[i]? = some x := ⟨_, List.getElem?_eq_getElem hlt⟩
          have hxl := zbs x (List.mem_of_getElem? hx)
          have hS2 : (pre ++ textB x) ++ textsB (bd.drop (i + 1)) = T := by rw [← hS, textsB_drop hx]; simp
          have hSl : pre.length ≤ 100000000 := by
            have := congrArg List.length hS2
            simp only [List.length_append] at this
            omega
          clear hS
          repeat' (first
| ((with_reducible apply opsF.op rfl); case hs => first | exact tHT | exact tHS)
| (with_reducible first | apply opsF.nil | apply seqF.nn | apply vcF.seq | apply vcF.region | apply vcF.skip | apply vcF.block | apply vcF.exit | apply vcF.ret | apply vcF.loop | apply seqF.e | apply seqF.r | apply blkF.nn | apply blkF.e | apply blkF.r | apply blkF.o rfl)
| ((with_reducible apply opsF.call); case hx => exact tAG)
| ((with_reducible apply vcF.cond); case hx => exact tEV) <;> ((intro hc; try simp only [Int.reduceLT, Int.reduceLE, Int.reduceEq, Int.reduceNe, Int.cast_ofNat_Int, Int.reduceNeg, reduceCtorEq, ne_eq, ge_iff_le, gt_iff_lt, beq_iff_eq, beq_eq_false_iff_ne, bne_iff_ne, bne_eq_false_iff_eq, nrm, *] at hc) <;> try (exfalso; omega))
| ((with_reducible first | apply retF.r | apply retF.nn); case hv => exact tRS)
| ((refine (wtext_call (h.n + 1) H0 _ _ _ hW (by omega) (by omega)).mono fun u h2 hp => ?_); replace hM := (hp.ext.objs h.n (by omega)).trans hM0; replace hW := hp; clear hp))
          exact ⟨i + 1, by omega, _, hW, g1, g4, g47, g48, rfl, by omega, hS2⟩
        · obtain rfl : i = bd.length := by omega
          rw [List.drop_length, textsB, List.append_nil] at hS
          subst hS
          obtain ⟨tk, hO, _, _⟩ := hW.ob
          have hE : Ext h hh := (hH0 ▸ Ext.alloc h _).trans hW.ext
          repeat' (first
| ((with_reducible apply opsF.op rfl); case hs => first | exact tHT | exact tHS)
| (with_reducible first | apply opsF.nil | apply seqF.nn | apply vcF.seq | apply vcF.region | apply vcF.skip | apply vcF.block | apply vcF.exit | apply vcF.ret | apply vcF.loop | apply seqF.e | apply seqF.r | apply blkF.nn | apply blkF.e | apply blkF.r | apply blkF.o rfl)
| ((with_reducible apply opsF.call); case hx => exact tAG)
| ((with_reducible apply vcF.cond); case hx => exact tEV) <;> ((intro hc; try simp only [Int.reduceLT, Int.reduceLE, Int.reduceEq, Int.reduceNe, Int.cast_ofNat_Int, Int.reduceNeg, reduceCtorEq, ne_eq, ge_iff_le, gt_iff_lt, beq_iff_eq, beq_eq_false_iff_ne, bne_iff_ne, bne_eq_false_iff_eq, nrm, *] at hc) <;> try (exfalso; omega))
| ((with_reducible first | apply retF.r | apply retF.nn); case hv => exact tRS))
          all_goals exact ⟨.tup (.cons .noTok (.cons (.refl _) .nil)), hE⟩
theorem binV_plain (m : Msg) : Plain (binV m) := by
  unfold binV
  split
  · refine Plain.tupv fun x hx => ?_
    simp only [List.mem_cons, List.not_mem_nil, or_false] at hx
    rcases hx with rfl | rfl
    · refine Plain.listv trivial fun r hr x hx => ?_
      simp only [brows, List.mem_map] at hr
      obtain ⟨b, _, rfl⟩ := hr
      rw [List.mem_singleton.1 hx]; exact .v _
    · exact .v _
  · refine Plain.tupv fun x hx => ?_
    simp only [List.mem_cons, List.not_mem_nil, or_false] at hx
    rcases hx with rfl | rfl
    · exact Plain.listv trivial fun r hr x hx => by cases hr
    · exact .v _
theorem bencode_call (m : Msg) (t1 t2 t3 : Tok) (h : AH) (hm : MOk m) : Call P w0 bin_Encode [.agg (msgC m t1 t2 t3)] h (fun v h' => v = binV m ∧ h' = h) := Call.pure (binV_plain m) ((bencode_raw m t1 t2 t3 h hm).weak fun v h' hq => ⟨_, _, hq.1, .refl _, rfl, hq.2⟩)
end Go.Abs.F
/- Layer 12: Decode of what Encode wrote. -/
namespace Go.Abs.F
open Go Go.Abs
set_option maxRecDepth 10000
set_option maxHeartbeats 20000000
set_option linter.unusedSimpArgs false
set_option linter.unusedVariables false
variable {w0 : World}
structure IsR (R p s : L8) : Prop where
  eq : R = p ++ s
  len : R.length ≤ 600000000
def zeroC : List AV := [.v (.int .i64 0), .v (.int .i64 0), .v (.int .i64 0), .v (.int .i64 0), .v (.int .i64 0), .v (.string (bs [])), .list 1 [] .full, .list 1 [] .full, .list 1 [] .full]
structure DS (h hh : AH) (R : L8) (M : List AV) : Prop where
  e : Ext h hh
  n : h.n + 4 ≤ hh.n
  z : hh.objs h.n = some (.cells zeroC)
  r : hh.objs (h.n + 1) = some (rdB R)
  c : hh.objs (h.n + 2) = some (.cells [.ptr (h.n + 1) 0])
  m : hh.objs (h.n + 3) = some (.cells M)
theorem DS.setM {h hh : AH} {R : L8} {M : List AV} (D : DS h hh R M) (M2 : List AV) : DS h (hh.set (h.n + 3) (.cells M2)) R M2 :=
  ⟨D.e.set (by omega) _, D.n, by rw [set_at, if_neg (by omega)]; exact D.z, by rw [set_at, if_neg (by omega)]; exact D.r, by rw [set_at, if_neg (by omega)]; exact D.c, by rw [set_at, if_pos rfl]⟩
theorem DS.next {h hh h1 : AH} {R s : L8} {M : List AV} (D : DS h hh R M) (k : ExtX (fun i => i = h.n + 1) (fun _ => False) hh h1) (ho : h1.objs (h.n + 1) = some (rdB s)) : DS h h1 s M := by
  have hn := D.n
  exact ⟨Ext.transX D.e k (fun i hi => by subst hi; omega) (fun t ht => ht.elim), Nat.le_trans D.n k.n, (k.objs _ (by omega) (by omega)).trans D.z, ho, (k.objs _ (by omega) (by omega)).trans D.c, (k.objs _ (by omega) (by omega)).trans D.m⟩
theorem dnum (c : Int) (k : Nat) (hc : c = (k : Int)) (id n : Nat) (R s : L8) (I : IsR R (numW k n) s) (h : AH) (hlt : id < h.n) (ho : h.objs id = some (rdB R)) (hk : k ≤ 6) (hn : n < 256 ^ k) : Call P w0 bin_reader_num [.ptr id 0, .v (.int .i64 c)] h (fun v h' => v = .v (.int .i64 (n : Nat)) ∧ h' = h.set id (rdB s)) := by
  have hl := I.len
  rw [I.eq] at ho hl
  rw [List.length_append] at hl
  exact bnum_lit c k hc id n s h hlt ho hk hn (by omega)
theorem dtext (id : Nat) (t R s : L8) (I : IsR R (textB t) s) (h : AH) (hlt : id < h.n) (ho : h.objs id = some (rdB R)) (ht : t.length < 65536) : Call P w0 bin_reader_text [.ptr id 0] h (fun v h' => v = .v (.string (bs t)) ∧ h' = h.set id (rdB s)) := by
  have hl := I.len
  rw [I.eq] at ho hl
  rw [List.length_append] at hl
  exact btext_call id t s h hlt ho ht (by omega)
theorem dstr (c : Int) (size : Nat) (hc : c = (size : Int)) (l : List L8) (R s : L8) (I : IsR R (numW size l.length ++ textsB l) s) (h hh : AH) (M : List AV) (D : DS h hh R M) (hz : size ≤ 6) (hl : l.length ≤ 100000) (hll : l.length < 256 ^ size) (hx : ∀ t ∈ l, t.length < 65536) :
    Call P w0 bin_list_string [.ptr (h.n + 1) 0, .v (.int .i64 c), .func (.func bin_reader_text) [.ptr (h.n + 1) 0] []] hh (fun v h' => (∃ tk, v = .list 1 (srows l) tk) ∧ DS h h' s M) := by
  have hn := D.n
  have hr := D.r
  have hlen := I.len
  rw [I.eq, List.append_assoc] at hr hlen
  rw [List.length_append] at hlen
  exact (blstr_call (h.n + 1) size c hc l s hh (by omega) hr hz hl hll hx (by omega)).mono fun v h1 hp => ⟨hp.1, D.next hp.2.1 hp.2.2⟩
theorem dint (c : Int) (size : Nat) (hc : c = (size : Int)) (l : List Nat) (R s : L8) (I : IsR R (numW size l.length ++ marksN l) s) (h hh : AH) (M : List AV) (D : DS h hh R M) (hz : size ≤ 6) (hl : l.length ≤ 100000) (hll : l.length < 256 ^ size) (hx : ∀ t ∈ l, t ≤ 2) :
    Call P w0 bin_list_int [.ptr (h.n + 1) 0, .v (.int .i64 c), .func (.func bin_Decode_1) [] [.ptr (h.n + 2) 0]] hh (fun v h' => (∃ tk, v = .list 1 (nrows l) tk) ∧ DS h h' s M) := by
  have hn := D.n
  have hr := D.r
  have hlen := I.len
  rw [I.eq, List.append_assoc] at hr hlen
  rw [List.length_append] at hlen
  exact (blint_call (h.n + 1) size c hc l s hh (h.n + 2) (by omega) (by omega) D.c (by omega) hr hz hl hll hx (by omega)).mono fun v h1 hp => ⟨hp.1, D.next hp.2.1 hp.2.2⟩
structure IsN (R : L8) (k n : Nat) (s : L8) : Prop where
  r : IsR R (numW k n) s
  b : n < 256 ^ k
structure DA (h hh : AH) (R : L8) : Prop where
  e : Ext h hh
  n : hh.n = h.n + 3
  z : hh.objs h.n = some (.cells zeroC)
  r : hh.objs (h.n + 1) = some (rdB R)
  c : hh.objs (h.n + 2) = some (.cells [.ptr (h.n + 1) 0])
theorem DA.mk' {h hh : AH} {R : L8} (D : DA h hh R) : DS h (hh.alloc (.cells zeroC)) R zeroC := by
  have hn := D.n
  exact ⟨D.e.trans (Ext.alloc _ _), by rw [alloc_n, hn]; omega, by rw [alloc_at, if_neg (by omega)]; exact D.z, by rw [alloc_at, if_neg (by omega)]; exact D.r, by rw [alloc_at, if_neg (by omega)]; exact D.c, by rw [alloc_at, if_pos (by omega)]⟩
theorem DA.next {h hh : AH} {R s : L8} (D : DA h hh R) : DA h (hh.set (h.n + 1) (rdB s)) s := by
  have hn := D.n
  exact ⟨D.e.set (by omega) _, hn, by rw [set_at, if_neg (by omega)]; exact D.z, by rw [set_at, if_pos rfl], by rw [set_at, if_neg (by omega)]; exact D.c⟩
theorem DS.nxt {h hh : AH} {R s : L8} {M : List AV} (D : DS h hh R M) : DS h (hh.set (h.n + 1) (rdB s)) s M :=
  ⟨D.e.set (by omega) _, D.n, by rw [set_at, if_neg (by omega)]; exact D.z, by rw [set_at, if_pos rfl], by rw [set_at, if_neg (by omega)]; exact D.c, by rw [set_at, if_neg (by omega)]; exact D.m⟩
theorem anum (c : Int) (k : Nat) (hc : c = (k : Int)) (hk : k ≤ 6) {h hh : AH} {R s : L8} {n : Nat} (D : DA h hh R) (I : IsN R k n s) : Call P w0 bin_reader_num [.ptr (h.n + 1) 0, .v (.int .i64 c)] hh (fun v h' => v = .v (.int .i64 (n : Nat)) ∧ DA h h' s) :=
  (dnum c k hc (h.n + 1) n R s I.r hh (by have := D.n; omega) D.r hk I.b).mono fun v h' hp => ⟨hp.1, hp.2 ▸ D.next⟩
theorem snum (c : Int) (k : Nat) (hc : c = (k : Int)) (hk : k ≤ 6) {h hh : AH} {R s : L8} {n : Nat} {M : List AV} (D : DS h hh R M) (I : IsN R k n s) : Call P w0 bin_reader_num [.ptr (h.n + 1) 0, .v (.int .i64 c)] hh (fun v h' => v = .v (.int .i64 (n : Nat)) ∧ DS h h' s M) :=
  (dnum c k hc (h.n + 1) n R s I.r hh (by have := D.n; omega) D.r hk I.b).mono fun v h' hp => ⟨hp.1, hp.2 ▸ D.nxt⟩
theorem atext {h hh : AH} {R t s : L8} (ht : t.length < 65536) (D : DA h hh R) (I : IsR R (textB t) s) : Call P w0 bin_reader_text [.ptr (h.n + 1) 0] hh (fun v h' => v = .v (.string (bs t)) ∧ DA h h' s) :=
  (dtext (h.n + 1) t R s I hh (by have := D.n; omega) D.r ht).mono fun v h' hp => ⟨hp.1, hp.2 ▸ D.next⟩
theorem stext {h hh : AH} {R t s : L8} {M : List AV} (ht : t.length < 65536) (D : DS h hh R M) (I : IsR R (textB t) s) : Call P w0 bin_reader_text [.ptr (h.n + 1) 0] hh (fun v h' => v = .v (.string (bs t)) ∧ DS h h' s M) :=
  (dtext (h.n + 1) t R s I hh (by have := D.n; omega) D.r ht).mono fun v h' hp => ⟨hp.1, hp.2 ▸ D.nxt⟩
theorem bdecode_raw (a b c d e : Nat) (f : L8) (rc : List L8) (mn : List Nat) (bd : List L8) (R0 R1 R2 R3 R4 R5 R6 R7 R8 : L8) (h : AH)
    (I0 : IsN R0 1 2 R1) (I1 : IsN R1 6 a R2) (I2 : IsN R2 6 b R3) (I3 : IsN R3 6 c R4) (I4 : IsN R4 6 d R5) (I5 : IsN R5 6 e R6) (I6 : IsR R6 (textB f) R7)
    (I7 : IsR R7 (numW 2 rc.length ++ textsB rc) R8) (R9 : L8) (I8 : IsR R8 (numW 2 mn.length ++ marksN mn) R9) (I9 : IsR R9 (numW 4 bd.length ++ textsB bd) [])
    (hf : f.length < 65536)
    (hrl : rc.length ≤ 20) (hrx : ∀ t ∈ rc, t.length < 65536) (hml : mn.length ≤ 50) (hmx : ∀ t ∈ mn, t ≤ 2) (hbl : bd.length ≤ 65536) (hbx : ∀ t ∈ bd, t.length < 65536)
    (hG : ∀ t1 t2 t3 h, Call P w0 env_Good [.agg [.v (.int .i64 (a : Int)), .v (.int .i64 (b : Int)), .v (.int .i64 (c : Int)), .v (.int .i64 (d : Int)), .v (.int .i64 (e : Int)), .v (.string (bs f)), .list 1 (srows rc) t1, .list 1 (nrows mn) t2, .list 1 (srows bd) t3]] h (fun v h' => v = .v (.bool true) ∧ h' = h)) :
    Call P w0 bin_Decode [.list 1 (brows R0) .no] h (fun v h' => (∃ t1 t2 t3, v = .tup [.agg [.v (.int .i64 (a : Int)), .v (.int .i64 (b : Int)), .v (.int .i64 (c : Int)), .v (.int .i64 (d : Int)), .v (.int .i64 (e : Int)), .v (.string (bs f)), .list 1 (srows rc) t1, .list 1 (nrows mn) t2, .list 1 (srows bd) t3], .v (.int .i64 0)]) ∧ Ext h h') := by
  have l7 := fun hh M D => dstr (w0 := w0) 2 2 rfl rc R7 R8 I7 h hh M D (by omega) (by omega) (by omega) hrx
  have l8 := fun hh M D => dint (w0 := w0) 2 2 rfl mn R8 R9 I8 h hh M D (by omega) (by omega) (by omega) hmx
  have l9 := fun hh M D => dstr (w0 := w0) 4 4 rfl bd R9 [] I9 h hh M D (by omega) (by omega) (by omega) hbx
  clear hrl hml hbl
  refine Call.bodyF b_bin_Decode rfl rfl ?_
  unfold c_bin_Decode
  repeat' (first
| (refine vcF.cut (a := .dalts _) (fun σ hh => DS h hh R7 [.v (.int .i64 (a : Int)), .v (.int .i64 (b : Int)), .v (.int .i64 (c : Int)), .v (.int .i64 (d : Int)), .v (.int .i64 (e : Int)), .v (.string (bs f)), .list 1 [] .full, .list 1 [] .full, .list 1 [] .full] ∧ σ 2 = .ptr h.n 0 ∧ σ 3 = .v (.int .i64 0) ∧ σ 4 = .ptr (h.n + 2) 0 ∧ σ 5 = .v (.int .i64 2) ∧ σ 6 = .ptr (h.n + 3) 0) ?_ ?_)
| ((with_reducible first | apply opsF.op rfl | apply dopsF.op rfl); case hs => first | exact tHT | exact tHS)
| (with_reducible first | apply opsF.nil | apply seqF.nn | apply vcF.seq | apply vcF.region | apply vcF.dregion | apply vcF.dalts | apply dallF.cons | apply dallF.nil | apply vcF.skip | apply vcF.ret | apply seqF.r | apply dopsF.nil | apply stabsF.nil | apply stabsF.cons | apply dopsF.cont)
| ((with_reducible first | apply opsF.call | apply dopsF.call); case hx => exact tAG)
| ((with_reducible first | apply opsF.want | apply dopsF.want | apply stabF.want); (case hg => exact tEV); case hb => exact tNB)
| ((with_reducible first | apply opsF.skip | apply dopsF.skip | apply stabF.skip); (case hg => exact tEV); case hb => exact tNB)
| (first | ((with_reducible first | apply opsF.case | apply dopsF.case); case hg => exact tEV) | ((with_reducible apply vcF.cond); case hx => exact tEV)) <;> ((intro hc; try simp only [Int.reduceLT, Int.reduceLE, Int.reduceEq, Int.reduceNe, Int.cast_ofNat_Int, Int.reduceNeg, reduceCtorEq, ne_eq, ge_iff_le, gt_iff_lt, beq_iff_eq, beq_eq_false_iff_ne, bne_iff_ne, bne_eq_false_iff_eq, nrm, *] at hc) <;> try (exfalso; omega))
| ((with_reducible first | apply opsF.und | apply dopsF.und); case hg => rfl)
| ((with_reducible apply stabF.und); rfl)
| ((with_reducible apply stabF.op); (case hs => first | exact tHT | exact tHS); case hv => exact tSV)
| ((with_reducible first | apply retF.r | apply retF.nn); case hv => exact tRS)
| ((refine (anum 1 1 rfl (by omega) (h := h) (R := R0) (n := 2) ⟨by (repeat' (first | exact Ext.refl _ | (refine Ext.set ?_ (by simp only [alloc_n, set_n]; omega) _) | (refine Ext.trans ?_ (Ext.alloc _ _)))), by simp [alloc_n, set_n], by (simp (disch := omega) only [set_at, alloc_at, alloc_n, set_n, if_neg, if_pos]; rfl), by (simp (disch := omega) only [set_at, alloc_at, alloc_n, set_n, if_neg, if_pos]; rfl), by (simp (disch := omega) only [set_at, alloc_at, alloc_n, set_n, if_neg, if_pos]; rfl)⟩ I0).mono fun v h1 hp => ?_); obtain ⟨rfl, D⟩ := hp; have rr := D.r; have cc := D.c; have nn := D.n; rw [rdB] at rr)
| ((refine (anum 6 6 rfl (by omega) D (by assumption)).mono fun v h1 hp => ?_); clear D rr cc; obtain ⟨rfl, D⟩ := hp; have rr := D.r; have cc := D.c; have nn := D.n; rw [rdB] at rr)
| ((refine (snum 6 6 rfl (by omega) D (by assumption)).mono fun v h1 hp => ?_); clear D rr cc mm; obtain ⟨rfl, D⟩ := hp; have rr := D.r; have cc := D.c; have nn := D.n; rw [rdB] at rr; have mm := D.m)
| ((refine (snum 6 6 rfl (by omega) D.mk' (by assumption)).mono fun v h1 hp => ?_); clear D rr cc; obtain ⟨rfl, D⟩ := hp; have rr := D.r; have cc := D.c; have nn := D.n; rw [rdB] at rr; have mm := D.m)
| ((refine (atext hf D (by assumption)).mono fun v h1 hp => ?_); clear D rr cc; obtain ⟨rfl, D⟩ := hp; have rr := D.r; have cc := D.c; have nn := D.n; rw [rdB] at rr)
| ((refine (stext hf D (by assumption)).mono fun v h1 hp => ?_); clear D rr cc mm; obtain ⟨rfl, D⟩ := hp; have rr := D.r; have cc := D.c; have nn := D.n; rw [rdB] at rr; have mm := D.m)
| ((refine (stext hf D.mk' (by assumption)).mono fun v h1 hp => ?_); clear D rr cc; obtain ⟨rfl, D⟩ := hp; have rr := D.r; have cc := D.c; have nn := D.n; rw [rdB] at rr; have mm := D.m))
  rotate_right
  · rintro σ hh ⟨D, g2, g3, g4, g5, g6⟩
    have rr := D.r; have cc := D.c; have nn := D.n; have mm := D.m; rw [rdB] at rr
    repeat' (first
| ((with_reducible first | apply opsF.op rfl | apply dopsF.op rfl); case hs => first | exact tHT | exact tHS)
| (with_reducible first | apply opsF.nil | apply seqF.nn | apply vcF.seq | apply vcF.region | apply vcF.dregion | apply vcF.dalts | apply dallF.cons | apply dallF.nil | apply vcF.skip | apply vcF.ret | apply seqF.r | apply dopsF.nil | apply stabsF.nil | apply stabsF.cons | apply dopsF.cont)
| ((with_reducible first | apply opsF.call | apply dopsF.call); case hx => exact tAG)
| ((with_reducible first | apply opsF.want | apply dopsF.want | apply stabF.want); (case hg => exact tEV); case hb => exact tNB)
| ((with_reducible first | apply opsF.skip | apply dopsF.skip | apply stabF.skip); (case hg => exact tEV); case hb => exact tNB)
| (first | ((with_reducible first | apply opsF.case | apply dopsF.case); case hg => exact tEV) | ((with_reducible apply vcF.cond); case hx => exact tEV)) <;> ((intro hc; try simp only [Int.reduceLT, Int.reduceLE, Int.reduceEq, Int.reduceNe, Int.cast_ofNat_Int, Int.reduceNeg, reduceCtorEq, ne_eq, ge_iff_le, gt_iff_lt, beq_iff_eq, beq_eq_false_iff_ne, bne_iff_ne, bne_eq_false_iff_eq, nrm, *] at hc) <;> try (exfalso; omega))
| ((with_reducible first | apply opsF.und | apply dopsF.und); case hg => rfl)
| ((with_reducible apply stabF.und); rfl)
| ((with_reducible apply stabF.op); (case hs => first | exact tHT | exact tHS); case hv => exact tSV)
| ((with_reducible first | apply retF.r | apply retF.nn); case hv => exact tRS)
| ((refine (l7 _ _ D).mono fun v h1 hp => ?_); clear l7 D rr cc mm; obtain ⟨⟨tk7, rfl⟩, D⟩ := hp; have rr := D.r; have cc := D.c; have nn := D.n; have mm := D.m; rw [rdB] at rr)
| ((refine (l8 _ _ (D.setM _)).mono fun v h1 hp => ?_); clear l8 D rr cc mm; obtain ⟨⟨tk8, rfl⟩, D⟩ := hp; have rr := D.r; have cc := D.c; have nn := D.n; have mm := D.m; rw [rdB] at rr)
| ((refine (l9 _ _ (D.setM _)).mono fun v h1 hp => ?_); clear l9 D rr cc mm; obtain ⟨⟨tk9, rfl⟩, D⟩ := hp; have rr := D.r; have cc := D.c; have nn := D.n; have mm := D.m; have zz := D.z; have ee := D.e; rw [rdB] at rr; rw [zeroC] at zz)
| ((refine Call.use (hG _ _ _ _) ?_)))
    all_goals exact ⟨⟨_, _, _, rfl⟩, (ee.set (by omega) _).set (Nat.le_refl _) _⟩
  all_goals (refine ⟨?_, ?_, ?_, ?_, ?_, ?_⟩)
  all_goals first
    | exact D.setM _
    | rfl
    | ((conv => (lhs; whnf)); simp only [*]; done)
    | (have D2 := D.mk'.setM [.v (.int .i64 (a : Int)), .v (.int .i64 (b : Int)), .v (.int .i64 (c : Int)), .v (.int .i64 (d : Int)), .v (.int .i64 (e : Int)), .v (.string (bs f)), .list 1 [] .full, .list 1 [] .full, .list 1 [] .full]
       exact D2)
end Go.Abs.F
/- Layer 12: the document's bytes of a message. -/
namespace Go.Abs.F
open Go Go.Abs
set_option maxRecDepth 10000
set_option maxHeartbeats 20000000
set_option linter.unusedSimpArgs false
set_option linter.unusedVariables false
variable {w0 : World}
def bcel (l : L8) : List AV := l.map fun b => .v (.int .u8 (b.toNat : Int))
theorem bcel_len (l : L8) : (bcel l).length = l.length := by simp [bcel]
theorem rnum8_row (n0 size : Nat) (h : AH) (hn : n0 ≤ 1152921504606846976) (hs : size ≤ 6) :
    Call P w0 ref08_num [.v (.int .i64 (n0 : Nat)), .v (.int .i64 (size : Nat))] h (fun v h' => v = .row h.n 0 size (some size) ∧ h'.objs h.n = some (.cells (bcel (numW size n0))) ∧ Ext h h') := by
  refine Call.bodyF b_ref08_num rfl rfl ?_
  unfold c_ref08_num
  repeat' (first
| ((with_reducible apply opsF.op rfl); case hs => first | exact tHT | exact tHS)
| (with_reducible first | apply opsF.nil | apply seqF.nn | apply vcF.seq | apply vcF.region | apply vcF.skip | apply vcF.block | apply vcF.exit | apply vcF.ret | apply vcF.loop | apply seqF.e | apply seqF.r | apply blkF.nn | apply blkF.e | apply blkF.r | apply blkF.o rfl)
| ((with_reducible apply opsF.call); case hx => exact tAG)
| ((with_reducible apply vcF.cond); case hx => exact tEV) <;> ((intro hc; try simp only [Int.reduceLT, Int.reduceLE, Int.reduceEq, Int.reduceNe, Int.cast_ofNat_Int, Int.reduceNeg, reduceCtorEq, ne_eq, ge_iff_le, gt_iff_lt, beq_iff_eq, beq_eq_false_iff_ne, bne_iff_ne, bne_eq_false_iff_eq, nrm, *] at hc) <;> try (exfalso; omega))
| ((with_reducible first | apply retF.r | apply retF.nn); case hv => exact tRS)
| ((with_reducible apply opsF.op rfl); (case hs => exact is_mks1 (n := size) tEV tEV (by omega))))
  refine LpF.ind rfl (fun k : Nat => k) (fun k σ hh => ∃ (q : Nat) (done : L8), q ≤ n0 ∧ numW size n0 = numW k q ++ done ∧ k + done.length = size ∧ hh.objs h.n = some (.cells (List.replicate k (.v (.int .u8 0)) ++ bcel done)) ∧ Ext h hh ∧ σ 0 = .v (.int .i64 (q : Nat)) ∧ σ 5 = .row h.n 0 size (some size) ∧ σ 6 = .v (.int .i64 ((k : Int) - 1))) ?_ (i := size)
    ⟨n0, [], Nat.le_refl _, by simp, rfl, by simp [alloc_at, bcel], Ext.alloc _ _, rfl, rfl, rfl⟩
  rintro k σ hh ⟨q, done, hq, he, hk, ho, hE, g0, g5, g6⟩
  have hge := hE.n
  cases k with
  | zero =>
    rw [show ((0 : Nat) : Int) - 1 = -1 by omega] at g6
    repeat' (first
| ((with_reducible apply opsF.op rfl); case hs => first | exact tHT | exact tHS)
| (with_reducible first | apply opsF.nil | apply seqF.nn | apply vcF.seq | apply vcF.region | apply vcF.skip | apply vcF.block | apply vcF.exit | apply vcF.ret | apply vcF.loop | apply seqF.e | apply seqF.r | apply blkF.nn | apply blkF.e | apply blkF.r | apply blkF.o rfl)
| ((with_reducible apply opsF.call); case hx => exact tAG)
| ((with_reducible apply vcF.cond); case hx => exact tEV) <;> ((intro hc; try simp only [Int.reduceLT, Int.reduceLE, Int.reduceEq, Int.reduceNe, Int.cast_ofNat_Int, Int.reduceNeg, reduceCtorEq, ne_eq, ge_iff_le, gt_iff_lt, beq_iff_eq, beq_eq_false_iff_ne, bne_iff_ne, bne_eq_false_iff_eq, nrm, *] at hc) <;> try (exfalso; omega))
| ((with_reducible first | apply retF.r | apply retF.nn); case hv => exact tRS))
    have e : bcel (numW size n0) = List.replicate 0 (.v (.int .u8 0)) ++ bcel done := by rw [he]; simp [numW]
    exact ⟨rfl, by rw [e]; exact ho, hE⟩
  | succ k =>
    have hk1 : ((k + 1 : Nat) : Int) - 1 = (k : Int) := by omega
    rw [hk1] at g6
    have hw := wrL_mid (v := AV.v (.int .u8 (((UInt8.ofNat (q % 256)).toNat : Nat) : Int))) (y := AV.v (.int .u8 0)) (ys := bcel done) (xs := List.replicate k (AV.v (.int .u8 0))) (n := k) (by simp)
    have hrp : List.replicate (k + 1) (AV.v (.int .u8 0)) ++ bcel done = List.replicate k (AV.v (.int .u8 0)) ++ AV.v (.int .u8 0) :: bcel done := by
      rw [List.replicate_succ']; simp
    rw [hrp] at ho
    have hlen : (List.replicate k (AV.v (.int .u8 0)) ++ AV.v (.int .u8 0) :: bcel done).length = size := by simp [bcel_len]; omega
    generalize List.replicate k (AV.v (.int .u8 0)) ++ AV.v (.int .u8 0) :: bcel done = cs at ho hw hlen
    have hmod : (q : Int).tmod 256 = ((q % 256 : Nat) : Int) := (Int.ofNat_tmod q 256).symm
    have hdiv : IntKind.i64.wrap ((q : Int).tdiv 256) = ((q / 256 : Nat) : Int) := by
      rw [show (q : Int).tdiv 256 = ((q / 256 : Nat) : Int) from (Int.ofNat_tdiv q 256).symm, w64 (by omega) (by omega)]
    have hcv : IntKind.u8.wrap ((q % 256 : Nat) : Int) = (((UInt8.ofNat (q % 256)).toNat : Nat) : Int) := by
      rw [wrap8, UInt8.toNat_ofNat']
      omega
    have hnum : numW size n0 = numW k (q / 256) ++ (UInt8.ofNat (q % 256) :: done) := by rw [he, numW]; simp
    clear he hrp
    repeat' (first
| ((with_reducible apply opsF.op rfl); case hs => first | exact tHT | exact tHS)
| (with_reducible first | apply opsF.nil | apply seqF.nn | apply vcF.seq | apply vcF.region | apply vcF.skip | apply vcF.block | apply vcF.exit | apply vcF.ret | apply vcF.loop | apply seqF.e | apply seqF.r | apply blkF.nn | apply blkF.e | apply blkF.r | apply blkF.o rfl)
| ((with_reducible apply opsF.call); case hx => exact tAG)
| ((with_reducible apply vcF.cond); case hx => exact tEV) <;> ((intro hc; try simp only [Int.reduceLT, Int.reduceLE, Int.reduceEq, Int.reduceNe, Int.cast_ofNat_Int, Int.reduceNeg, reduceCtorEq, ne_eq, ge_iff_le, gt_iff_lt, beq_iff_eq, beq_eq_false_iff_ne, bne_iff_ne, bne_eq_false_iff_eq, nrm, *] at hc) <;> try (exfalso; omega))
| ((with_reducible first | apply retF.r | apply retF.nn); case hv => exact tRS)
| ((with_reducible apply opsF.op rfl); (case hs => exact is_rem tEV tEV (by decide) hmod))
| ((with_reducible apply opsF.op rfl); (case hs => exact is_quo tEV tEV (by decide) hdiv))
| ((with_reducible apply opsF.op rfl); (case hs => exact is_convI tEV hcv)))
    refine ⟨k, by omega, q / 256, UInt8.ofNat (q % 256) :: done, Nat.le_trans (Nat.div_le_self _ _) hq, hnum, by simp; omega, ?_, hE.set (Nat.le_refl _) _, rfl, g5, ?_⟩
    · rw [set_at, if_pos rfl]
      congr 2
      rw [show 0 + k * 1 = k by omega]
      exact hw
    · rfl
theorem brows_flat (l : L8) : (brows l).flatten = bcel l := by
  induction l with
  | nil => rfl
  | cons x l ih =>
    show [AV.v (.int .u8 (x.toNat : Int))] ++ (brows l).flatten = _
    rw [ih]; rfl
theorem brows_plain (l : L8) {tok : Tok} (ht : tok.plain) : Plain (.list 1 (brows l) tok) := by
  refine Plain.listv ht fun r hr x hx => ?_
  simp only [brows, List.mem_map] at hr
  obtain ⟨b, _, rfl⟩ := hr
  rw [List.mem_singleton.1 hx]; exact .v _
theorem rnum8_call (n0 size : Nat) (c : Int) (hc : c = (size : Int)) (h : AH) (hn : n0 ≤ 1152921504606846976) (hs : size ≤ 6) :
    Call P w0 ref08_num [.v (.int .i64 (n0 : Nat)), .v (.int .i64 c)] h (fun v h' => v = .list 1 (brows (numW size n0)) .full ∧ h' = h) := by
  subst hc
  refine Call.pure (brows_plain _ trivial) ((rnum8_row n0 size h hn hs).listed fun v h' hp => ?_)
  obtain ⟨rfl, ho, hE⟩ := hp
  refine ⟨h.n, size, some size, 1, brows (numW size n0), [], .full, rfl, by rw [brows_flat, List.append_nil]; exact ho, by rw [brows_len, numW_len], ?_, by omega, .inr ⟨rfl, rfl⟩, rfl, hE.drop (Nat.le_refl _)⟩
  intro r hr
  simp only [brows, List.mem_map] at hr
  obtain ⟨b, _, rfl⟩ := hr
  rfl
theorem is_appB {σ : Fm} {h h2 : AH} {x y : Opd} {L S : L8} {tk tk1 tok : Tok} (hx : evF σ x = .list 1 (brows L) tk) (hy : evF σ y = .list 1 (brows S) tok) (hS : S ≠ []) (ht : appTok h tk = some (tk1, h2)) (hl : L.length + S.length ≤ 100000000000) :
    istep (.app 1 1 x y) (evF σ) h = some (.list 1 (brows (L ++ S)) tk1, h2) := by
  cases S with
  | nil => exact absurd rfl hS
  | cons c r =>
    refine is_app (r := [.v (.int .u8 (c.toNat : Int))]) (new := brows r) hx hy rfl ht ?_ (by rw [brows_app]; rfl)
    rw [brows_len, brows_len]
    simp at hl
    omega
theorem is_appS {σ : Fm} {h h2 : AH} {x y : Opd} {L S : L8} {tk tk1 : Tok} (hx : evF σ x = .list 1 (brows L) tk) (hy : evF σ y = .v (.string (bs S))) (hS : S ≠ []) (ht : appTok h tk = some (tk1, h2)) (hl : L.length + S.length ≤ 100000000000) :
    istep (.app 1 1 x y) (evF σ) h = some (.list 1 (brows (L ++ S)) tk1, h2) := by
  cases S with
  | nil => exact absurd rfl hS
  | cons c r =>
    refine is_app (r := [.v (.int .u8 (c.toNat : Int))]) (new := brows r) hx hy (by simp [srcRows, byteRows_brows, brows]) ht ?_ (by rw [brows_app]; rfl)
    rw [brows_len, brows_len]
    simp at hl
    omega
theorem numW_ne (k n : Nat) : numW (k + 1) n ≠ [] := by
  intro h
  have := congrArg List.length h
  rw [numW_len] at this
  cases this
theorem textB_ne (s : L8) : textB s ≠ [] := by
  intro h
  have := congrArg List.length h
  simp only [textB, List.length_append, numW_len, List.length_nil] at this
  omega
theorem rtext8_call (s : L8) (h : AH) (hs : s.length ≤ 1000000000) : Call P w0 ref08_text [.v (.string (bs s))] h (fun v h' => v = .list 1 (brows (textB s)) .no ∧ h' = h) := by
  have hN := fun h => rnum8_call (w0 := w0) s.length 2 2 rfl h (by omega) (by omega)
  refine Call.pure (brows_plain _ trivial) (Call.weak (Q := fun v h' => ∃ tk, v = .list 1 (brows (textB s)) tk ∧ Ext h h') ?_ fun v h' ⟨tk, hv, hE⟩ => ⟨_, _, hv ▸ .noTok, .refl _, rfl, hE⟩)
  refine Call.bodyF b_ref08_text rfl rfl ?_
  unfold c_ref08_text
  have hl2 := numW_len 2 s.length
  cases s with
  | nil =>
    have hap : appTok h .full = appTok h .full := rfl
    repeat' (first
| ((with_reducible apply opsF.op rfl); case hs => first | exact tHT | exact tHS)
| (with_reducible first | apply opsF.nil | apply seqF.nn | apply vcF.seq | apply vcF.region | apply vcF.skip | apply vcF.ret | apply seqF.r)
| ((with_reducible apply opsF.call); case hx => exact tAG)
| ((with_reducible apply vcF.cond); case hx => exact tEV) <;> ((intro hc; try simp only [Int.reduceLT, Int.reduceLE, Int.reduceEq, Int.reduceNe, Int.cast_ofNat_Int, Int.reduceNeg, reduceCtorEq, ne_eq, ge_iff_le, gt_iff_lt, beq_iff_eq, beq_eq_false_iff_ne, bne_iff_ne, bne_eq_false_iff_eq, nrm, *] at hc) <;> try (exfalso; omega))
| ((with_reducible first | apply retF.r | apply retF.nn); case hv => exact tRS)
| ((refine Call.use (hN _) ?_))
| ((with_reducible apply opsF.op rfl); (case hs => exact is_app0 tEV tEV rfl)))
    all_goals exact ⟨.full, by simp [textB], .refl _⟩
  | cons c r =>
    obtain ⟨tk1, h2, hap, hT2, hT3, hT4, hT5, hT6⟩ := (show TokU h .full from trivial).app
    repeat' (first
| ((with_reducible apply opsF.op rfl); case hs => first | exact tHT | exact tHS)
| (with_reducible first | apply opsF.nil | apply seqF.nn | apply vcF.seq | apply vcF.region | apply vcF.skip | apply vcF.ret | apply seqF.r)
| ((with_reducible apply opsF.call); case hx => exact tAG)
| ((with_reducible apply vcF.cond); case hx => exact tEV) <;> ((intro hc; try simp only [Int.reduceLT, Int.reduceLE, Int.reduceEq, Int.reduceNe, Int.cast_ofNat_Int, Int.reduceNeg, reduceCtorEq, ne_eq, ge_iff_le, gt_iff_lt, beq_iff_eq, beq_eq_false_iff_ne, bne_iff_ne, bne_eq_false_iff_eq, nrm, *] at hc) <;> try (exfalso; omega))
| ((with_reducible first | apply retF.r | apply retF.nn); case hv => exact tRS)
| ((refine Call.use (hN _) ?_))
| ((with_reducible apply opsF.op rfl); (case hs => exact is_appS tEV tEV (by simp) hap (by omega))))
    all_goals exact ⟨_, rfl, Ext.transX (.refl h) hT6 (fun _ x => x.elim) (fun t ht => by cases ht)⟩
end Go.Abs.F
/- Layer 12: the document's bytes of a message, whole. -/
namespace Go.Abs.F
open Go Go.Abs
set_option maxRecDepth 10000
set_option maxHeartbeats 20000000
set_option linter.unusedSimpArgs false
set_option linter.unusedVariables false
variable {w0 : World}
structure Ow (h hh : AH) (M : List AV) (tk : Tok) : Prop where
  e : Ext h hh
  m : hh.objs h.n = some (.cells M)
  lt : h.n < hh.n
  u : TokU hh tk
  f : ∀ t, tk.owner = some t → h.nt ≤ t
theorem Ow.step {h hh h2 : AH} {M : List AV} {tk tk1 : Tok} (O : Ow h hh M tk) (hT2 : TokU h2 tk1) (hT3 : TokN hh tk tk1) (hT4 : h2.objs = hh.objs) (hT5 : h2.n = hh.n) (hT6 : ExtX (fun _ => False) (fun t => tk.owner = some t) hh h2) : Ow h h2 M tk1 :=
  ⟨Ext.transX O.e hT6 (fun _ x => x.elim) O.f, by rw [hT4]; exact O.m, by rw [hT5]; exact O.lt, hT2, fun t ht => by
    rcases hT3 t ht with hz | hz
    · exact O.f t hz
    · exact Nat.le_trans O.e.nt hz⟩
theorem rbytes_raw (m : Msg) (t1 t2 t3 : Tok) (h : AH) (hm : MOk m) (hg : goodM m = true) : Call P w0 ref08_Bytes [.agg (msgC m t1 t2 t3)] h (fun v h' => ∃ tk, v = .list 1 (brows (bytesM m)) tk ∧ Ext h h') := by
  have xl := srows_len
  have xg := srows_get
  have yl := irows_len
  have yg := irows_get
  have htl := bytes_len hm hg
  obtain ⟨n1, n2, n3, n4, n5, f, rc, mk, bd⟩ := m
  simp only [goodM, numsS, Bool.and_eq_true, decide_eq_true_eq] at hg
  obtain ⟨⟨⟨⟨⟨⟨⟨⟨⟨⟨⟨q1, q2⟩, q3⟩, q4⟩, q5⟩, _⟩, _⟩, _⟩, _⟩, _⟩, rm⟩, _⟩ := hg
  obtain ⟨a, rfl, ha⟩ := time_le q1
  obtain ⟨b, rfl, hb⟩ := time_le q2
  obtain ⟨c, rfl, hc⟩ := time_le q3
  obtain ⟨d, rfl, hd⟩ := time_le q4
  obtain ⟨e, rfl, he⟩ := time_le q5
  clear q1 q2 q3 q4 q5
  obtain ⟨zf, zr, zrs, zm, zb, zbs⟩ := hm
  simp only at zf zr zrs zm zb zbs
  have e1 := srows_len rc
  have e2 := irows_len mk
  have e3 := srows_len bd
  obtain ⟨T, hT⟩ : ∃ T, bytesM ((a : Int), (b : Int), (c : Int), (d : Int), (e : Int), f, rc, mk, bd) = T := ⟨_, rfl⟩
  rw [hT] at htl
  rw [hT]
  have hS : (((((((([2] ++ numW 6 a) ++ numW 6 b) ++ numW 6 c) ++ numW 6 d) ++ numW 6 e) ++ textB f) ++ numW 2 rc.length)) ++ (textsB rc ++ (numW 2 mk.length ++ (marksB mk ++ (numW 4 bd.length ++ textsB bd)))) = T := by
    rw [← hT]; simp [bytesM]
  have hSl := congrArg List.length hS
  simp only [List.length_append, List.length_nil, List.length_cons, numW_len] at hSl
  clear hT
  unfold msgC
  dsimp only
  refine Call.bodyF b_ref08_Bytes rfl rfl ?_
  unfold c_ref08_Bytes
  obtain ⟨CS, hCS⟩ : ∃ CS, CS = [AV.v (.int .i64 (a : Int)), .v (.int .i64 (b : Int)), .v (.int .i64 (c : Int)), .v (.int .i64 (d : Int)), .v (.int .i64 (e : Int)), .v (.string (bs f)), .list 1 (srows rc) t1, .list 1 (irows mk) t2, .list 1 (srows bd) t3] := ⟨_, rfl⟩
  have O : Ow h (h.alloc (.cells CS)) CS .full := ⟨Ext.alloc _ _, by simp [alloc_at], by simp [alloc_n], trivial, fun t ht => by cases ht⟩
  have hM := O.m
  have lit2 : [[AV.v (.int .u8 2)]] = brows [2] := rfl
  rw [hCS] at O hM
  repeat' (first
| (obtain ⟨tk1, h2, hap, hT2, hT3, hT4, hT5, hT6⟩ := O.u.app; ((with_reducible apply opsF.op rfl); (case hs => exact is_appB tEV tEV (by first | exact numW_ne _ _ | exact textB_ne _ | simp) hap (by simp only [List.length_append, numW_len, List.length_cons, List.length_nil, textB]; omega))); replace O := O.step hT2 hT3 hT4 hT5 hT6; replace hM := O.m; clear hap hT2 hT3 hT4 hT5 hT6)
| ((with_reducible apply opsF.op rfl); case hs => first | exact tHT | exact tHS)
| (with_reducible first | apply opsF.nil | apply seqF.nn | apply vcF.seq | apply vcF.region | apply vcF.skip | apply vcF.block | apply vcF.exit | apply vcF.ret | apply vcF.loop | apply seqF.e | apply seqF.r | apply blkF.nn | apply blkF.e | apply blkF.r | apply blkF.o rfl)
| ((with_reducible apply opsF.call); case hx => exact tAG)
| ((with_reducible apply vcF.cond); case hx => exact tEV) <;> ((intro hc; try simp only [Int.reduceLT, Int.reduceLE, Int.reduceEq, Int.reduceNe, Int.cast_ofNat_Int, Int.reduceNeg, reduceCtorEq, ne_eq, ge_iff_le, gt_iff_lt, beq_iff_eq, beq_eq_false_iff_ne, bne_iff_ne, bne_eq_false_iff_eq, nrm, *] at hc) <;> try (exfalso; omega))
| ((with_reducible first | apply retF.r | apply retF.nn); case hv => exact tRS)
| ((refine Call.use (rnum8_call _ 6 6 rfl _ (by omega) (by omega)) ?_))
| with_reducible apply LpF.unfold rfl)
  repeat' (first
| (obtain ⟨tk1, h2, hap, hT2, hT3, hT4, hT5, hT6⟩ := O.u.app; ((with_reducible apply opsF.op rfl); (case hs => exact is_appB tEV tEV (by first | exact numW_ne _ _ | exact textB_ne _ | simp) hap (by simp only [List.length_append, numW_len, List.length_cons, List.length_nil, textB]; omega))); replace O := O.step hT2 hT3 hT4 hT5 hT6; replace hM := O.m; clear hap hT2 hT3 hT4 hT5 hT6)
| ((with_reducible apply opsF.op rfl); case hs => first | exact tHT | exact tHS)
| (with_reducible first | apply opsF.nil | apply seqF.nn | apply vcF.seq | apply vcF.region | apply vcF.skip | apply vcF.block | apply vcF.exit | apply vcF.ret | apply vcF.loop | apply seqF.e | apply seqF.r | apply blkF.nn | apply blkF.e | apply blkF.r | apply blkF.o rfl)
| ((with_reducible apply opsF.call); case hx => exact tAG)
| ((with_reducible apply vcF.cond); case hx => exact tEV) <;> ((intro hc; try simp only [Int.reduceLT, Int.reduceLE, Int.reduceEq, Int.reduceNe, Int.cast_ofNat_Int, Int.reduceNeg, reduceCtorEq, ne_eq, ge_iff_le, gt_iff_lt, beq_iff_eq, beq_eq_false_iff_ne, bne_iff_ne, bne_eq_false_iff_eq, nrm, *] at hc) <;> try (exfalso; omega))
| ((with_reducible first | apply retF.r | apply retF.nn); case hv => exact tRS)
| ((refine Call.use (rnum8_call _ 2 2 rfl _ (by omega) (by omega)) ?_))
| ((refine Call.use (rtext8_call _ _ (by omega)) ?_)))
  clear hSl hc ha hb hd he hM lit2
  rw [← hCS] at O
  refine LpF.ind rfl (fun i : Nat => rc.length - i) (fun i σ hh => ∃ (pre : L8) (tk : Tok), Ow h hh CS tk ∧ σ 1 = .ptr h.n 0 ∧ σ 3 = .list 1 (brows pre) tk ∧ σ 6 = .v (.int .i64 (i : Nat)) ∧ i ≤ rc.length ∧ pre ++ (textsB (rc.drop i) ++ (numW 2 mk.length ++ (marksB mk ++ (numW 4 bd.length ++ textsB bd)))) = T) ?_ (i := 0)
    ⟨_, _, O, rfl, rfl, rfl, Nat.zero_le _, hS⟩
  clear O hS
  rintro i σ hh ⟨pre, tk, O, g1, g3, g6, hi, hS⟩
  have hM := O.m
  rw [hCS] at hM
  rcases Nat.lt_or_ge i rc.length with hlt | hge
  · obtain ⟨x, hx⟩ : ∃ x, rc[i]? = some x := ⟨_, List.getElem?_eq_getElem hlt⟩
    have hxl := zrs x (List.mem_of_getElem? hx)
    have hS2 : (pre ++ textB x) ++ (textsB (rc.drop (i + 1)) ++ (numW 2 mk.length ++ (marksB mk ++ (numW 4 bd.length ++ textsB bd)))) = T := by rw [← hS, textsB_drop hx]; simp
    have hSl : pre.length ≤ 100000000 := by
      have := congrArg List.length hS2
      simp only [List.length_append] at this
      omega
    clear hS
    rw [hCS] at O
    repeat' (first
| (obtain ⟨tk1, h2, hap, hT2, hT3, hT4, hT5, hT6⟩ := O.u.app; ((with_reducible apply opsF.op rfl); (case hs => exact is_appB tEV tEV (by first | exact numW_ne _ _ | exact textB_ne _ | simp) hap (by simp only [List.length_append, numW_len, List.length_cons, List.length_nil, textB]; omega))); replace O := O.step hT2 hT3 hT4 hT5 hT6; replace hM := O.m; clear hap hT2 hT3 hT4 hT5 hT6)
| ((with_reducible apply opsF.op rfl); case hs => first | exact tHT | exact tHS)
| (with_reducible first | apply opsF.nil | apply seqF.nn | apply vcF.seq | apply vcF.region | apply vcF.skip | apply vcF.block | apply vcF.exit | apply vcF.ret | apply vcF.loop | apply seqF.e | apply seqF.r | apply blkF.nn | apply blkF.e | apply blkF.r | apply blkF.o rfl)
| ((with_reducible apply opsF.call); case hx => exact tAG)
| ((with_reducible apply vcF.cond); case hx => exact tEV) <;> ((intro hc; try simp only [Int.reduceLT, Int.reduceLE, Int.reduceEq, Int.reduceNe, Int.cast_ofNat_Int, Int.reduceNeg, reduceCtorEq, ne_eq, ge_iff_le, gt_iff_lt, beq_iff_eq, beq_eq_false_iff_ne, bne_iff_ne, bne_eq_false_iff_eq, nrm, *] at hc) <;> try (exfalso; omega))
| ((with_reducible first | apply retF.r | apply retF.nn); case hv => exact tRS)
| ((refine Call.use (rtext8_call _ _ (by omega)) ?_)))
    rw [← hCS] at O
    exact ⟨i + 1, by omega, _, _, O, g1, rfl, rfl, by omega, hS2⟩
  · obtain rfl : i = rc.length := by omega
    rw [List.drop_length] at hS
    have hS2 : (pre ++ numW 2 mk.length) ++ (marksB mk ++ (numW 4 bd.length ++ textsB bd)) = T := by rw [← hS]; simp [textsB]
    have hSl : pre.length ≤ 100000000 := by
      have := congrArg List.length hS2
      simp only [List.length_append] at this
      omega
    clear hS
    rw [hCS] at O
    repeat' (first
| (obtain ⟨tk1, h2, hap, hT2, hT3, hT4, hT5, hT6⟩ := O.u.app; ((with_reducible apply opsF.op rfl); (case hs => exact is_appB tEV tEV (by first | exact numW_ne _ _ | exact textB_ne _ | simp) hap (by simp only [List.length_append, numW_len, List.length_cons, List.length_nil, textB]; omega))); replace O := O.step hT2 hT3 hT4 hT5 hT6; replace hM := O.m; clear hap hT2 hT3 hT4 hT5 hT6)
| ((with_reducible apply opsF.op rfl); case hs => first | exact tHT | exact tHS)
| (with_reducible first | apply opsF.nil | apply seqF.nn | apply vcF.seq | apply vcF.region | apply vcF.skip | apply vcF.block | apply vcF.exit | apply vcF.ret | apply vcF.loop | apply seqF.e | apply seqF.r | apply blkF.nn | apply blkF.e | apply blkF.r | apply blkF.o rfl)
| ((with_reducible apply opsF.call); case hx => exact tAG)
| ((with_reducible apply vcF.cond); case hx => exact tEV) <;> ((intro hc; try simp only [Int.reduceLT, Int.reduceLE, Int.reduceEq, Int.reduceNe, Int.cast_ofNat_Int, Int.reduceNeg, reduceCtorEq, ne_eq, ge_iff_le, gt_iff_lt, beq_iff_eq, beq_eq_false_iff_ne, bne_iff_ne, bne_eq_false_iff_eq, nrm, *] at hc) <;> try (exfalso; omega))
| ((with_reducible first | apply retF.r | apply retF.nn); case hv => exact tRS)
| ((refine Call.use (rnum8_call _ 2 2 rfl _ (by omega) (by omega)) ?_)))
    rw [← hCS] at O
    refine LpF.ind rfl (fun i : Nat => mk.length - i) (fun i σ hh => ∃ (pre : L8) (tk : Tok), Ow h hh CS tk ∧ σ 1 = .ptr h.n 0 ∧ σ 3 = .list 1 (brows pre) tk ∧ σ 7 = .v (.int .i64 (i : Nat)) ∧ i ≤ mk.length ∧ pre ++ (marksB (mk.drop i) ++ (numW 4 bd.length ++ textsB bd)) = T) ?_ (i := 0)
      ⟨_, _, O, g1, rfl, rfl, Nat.zero_le _, hS2⟩
    clear O hS2 hSl g1 g3 g6 hM
    rintro i σ hh ⟨pre, tk, O, g1, g3, g6, hi, hS⟩
    have hM := O.m
    rw [hCS] at hM
    rcases Nat.lt_or_ge i mk.length with hlt | hge
    · obtain ⟨x, hx⟩ : ∃ x, mk[i]? = some x := ⟨_, List.getElem?_eq_getElem hlt⟩
      have hmx : markS x = true := List.all_eq_true.1 rm x (List.mem_of_getElem? hx)
      simp only [markS, Bool.and_eq_true, decide_eq_true_eq] at hmx
      obtain ⟨k, rfl⟩ : ∃ k : Nat, x = (k : Int) := ⟨x.toNat, by omega⟩
      have hk : k ≤ 2 := by omega
      have hS2 : (pre ++ numW 1 k) ++ (marksB (mk.drop (i + 1)) ++ (numW 4 bd.length ++ textsB bd)) = T := by rw [← hS, marksB_drop hx hk]; simp
      have hSl : pre.length ≤ 100000000 := by
        have := congrArg List.length hS2
        simp only [List.length_append] at this
        omega
      clear hS
      have hb1 : [[AV.v (.int .u8 (k : Int))]] = brows (numW 1 k) := by
        have : k % 256 = k := by omega
        simp [numW, brows, this]
      have hcv : IntKind.u8.wrap (k : Int) = (k : Int) := by rw [wrap8]; omega
      have bl := brows_len
      rw [hCS] at O
      obtain ⟨tk1, h2, hap, hT2, hT3, hT4, hT5, hT6⟩ := O.u.app
      replace O := O.step hT2 hT3 hT4 hT5 hT6
      repeat' (first
| ((with_reducible apply opsF.op rfl); (case hs => exact is_convI tEV hcv))
| ((with_reducible apply opsF.op rfl); case hs => first | exact tHT | exact tHS)
| (with_reducible first | apply opsF.nil | apply seqF.nn | apply vcF.seq | apply vcF.region | apply vcF.skip | apply vcF.block | apply vcF.exit | apply vcF.ret | apply vcF.loop | apply seqF.e | apply seqF.r | apply blkF.nn | apply blkF.e | apply blkF.r | apply blkF.o rfl)
| ((with_reducible apply opsF.call); case hx => exact tAG)
| ((with_reducible apply vcF.cond); case hx => exact tEV) <;> ((intro hc; try simp only [Int.reduceLT, Int.reduceLE, Int.reduceEq, Int.reduceNe, Int.cast_ofNat_Int, Int.reduceNeg, reduceCtorEq, ne_eq, ge_iff_le, gt_iff_lt, beq_iff_eq, beq_eq_false_iff_ne, bne_iff_ne, bne_eq_false_iff_eq, nrm, *] at hc) <;> try (exfalso; omega))
| ((with_reducible first | apply retF.r | apply retF.nn); case hv => exact tRS))
      rw [← hCS] at O
      refine ⟨i + 1, by omega, _, _, O, g1, ?_, rfl, by omega, hS2⟩
      rw [brows_app]
      rfl
    · obtain rfl : i = mk.length := by omega
      rw [List.drop_length] at hS
      have hS2 : (pre ++ numW 4 bd.length) ++ textsB bd = T := by rw [← hS]; simp [marksB]
      have hSl : pre.length ≤ 100000000 := by
        have := congrArg List.length hS2
        simp only [List.length_append] at this
        omega
      clear hS
      rw [hCS] at O
      repeat' (first
| (obtain ⟨tk1, h2, hap, hT2, hT3, hT4, hT5, hT6⟩ := O.u.app; ((with_reducible apply opsF.op rfl); (case hs => exact is_appB tEV tEV (by first | exact numW_ne _ _ | exact textB_ne _ | simp) hap (by simp only [List.length_append, numW_len, List.length_cons, List.length_nil, textB]; omega))); replace O := O.step hT2 hT3 hT4 hT5 hT6; replace hM := O.m; clear hap hT2 hT3 hT4 hT5 hT6)
| ((with_reducible apply opsF.op rfl); case hs => first | exact tHT | exact tHS)
| (with_reducible first | apply opsF.nil | apply seqF.nn | apply vcF.seq | apply vcF.region | apply vcF.skip | apply vcF.block | apply vcF.exit | apply vcF.ret | apply vcF.loop | apply seqF.e | apply seqF.r | apply blkF.nn | apply blkF.e | apply blkF.r | apply blkF.o rfl)
| ((with_reducible apply opsF.call); case hx => exact tAG)
| ((with_reducible apply vcF.cond); case hx => exact tEV) <;> ((intro hc; try simp only [Int.reduceLT, Int.reduceLE, Int.reduceEq, Int.reduceNe, Int.cast_ofNat_Int, Int.reduceNeg, reduceCtorEq, ne_eq, ge_iff_le, gt_iff_lt, beq_iff_eq, beq_eq_false_iff_ne, bne_iff_ne, bne_eq_false_iff_eq, nrm, *] at hc) <;> try (exfalso; omega))
| ((with_reducible first | apply retF.r | apply retF.nn); case hv => exact tRS)
| ((refine Call.use (rnum8_call _ 4 4 rfl _ (by omega) (by omega)) ?_)))
      rw [← hCS] at O
      refine LpF.ind rfl (fun i : Nat => bd.length - i) (fun i σ hh => ∃ (pre : L8) (tk : Tok), Ow h hh CS tk ∧ σ 1 = .ptr h.n 0 ∧ σ 3 = .list 1 (brows pre) tk ∧ σ 8 = .v (.int .i64 (i : Nat)) ∧ i ≤ bd.length ∧ pre ++ textsB (bd.drop i) = T) ?_ (i := 0)
        ⟨_, _, O, g1, rfl, rfl, Nat.zero_le _, hS2⟩
      clear O hS2 hSl g1 g3 g6 hM
      rintro i σ hh ⟨pre, tk, O, g1, g3, g6, hi, hS⟩
      have hM := O.m
      rw [hCS] at hM
      rcases Nat.lt_or_ge i bd.length with hlt | hge
      · obtain ⟨x, hx⟩ : ∃ x, bd[i]? = some x := ⟨_, List.getElem?_eq_getElem hlt⟩
        have hxl := zbs x (List.mem_of_getElem? hx)
        have hS2 : (pre ++ textB x) ++ textsB (bd.drop (i + 1)) = T := by rw [← hS, textsB_drop hx]; simp
        have hSl : pre.length ≤ 100000000 := by
          have := congrArg List.length hS2
          simp only [List.length_append] at this
          omega
        clear hS
        rw [hCS] at O
        repeat' (first
| (obtain ⟨tk1, h2, hap, hT2, hT3, hT4, hT5, hT6⟩ := O.u.app; ((with_reducible apply opsF.op rfl); (case hs => exact is_appB tEV tEV (by first | exact numW_ne _ _ | exact textB_ne _ | simp) hap (by simp only [List.length_append, numW_len, List.length_cons, List.length_nil, textB]; omega))); replace O := O.step hT2 hT3 hT4 hT5 hT6; replace hM := O.m; clear hap hT2 hT3 hT4 hT5 hT6)
| ((with_reducible apply opsF.op rfl); case hs => first | exact tHT | exact tHS)
| (with_reducible first | apply opsF.nil | apply seqF.nn | apply vcF.seq | apply vcF.region | apply vcF.skip | apply vcF.block | apply vcF.exit | apply vcF.ret | apply vcF.loop | apply seqF.e | apply seqF.r | apply blkF.nn | apply blkF.e | apply blkF.r | apply blkF.o rfl)
| ((with_reducible apply opsF.call); case hx => exact tAG)
| ((with_reducible apply vcF.cond); case hx => exact tEV) <;> ((intro hc; try simp only [Int.reduceLT, Int.reduceLE, Int.reduceEq, Int.reduceNe, Int.cast_ofNat_Int, Int.reduceNeg, reduceCtorEq, ne_eq, ge_iff_le, gt_iff_lt, beq_iff_eq, beq_eq_false_iff_ne, bne_iff_ne, bne_eq_false_iff_eq, nrm, *] at hc) <;> try (exfalso; omega))
| ((with_reducible first | apply retF.r | apply retF.nn); case hv => exact tRS)
| ((refine Call.use (rtext8_call _ _ (by omega)) ?_)))
        rw [← hCS] at O
        exact ⟨i + 1, by omega, _, _, O, g1, rfl, rfl, by omega, hS2⟩
      · obtain rfl : i = bd.length := by omega
        rw [List.drop_length, textsB, List.append_nil] at hS
        subst hS
        have hE := O.e
        repeat' (first
| ((with_reducible apply opsF.op rfl); case hs => first | exact tHT | exact tHS)
| (with_reducible first | apply opsF.nil | apply seqF.nn | apply vcF.seq | apply vcF.region | apply vcF.skip | apply vcF.block | apply vcF.exit | apply vcF.ret | apply vcF.loop | apply seqF.e | apply seqF.r | apply blkF.nn | apply blkF.e | apply blkF.r | apply blkF.o rfl)
| ((with_reducible apply opsF.call); case hx => exact tAG)
| ((with_reducible apply vcF.cond); case hx => exact tEV) <;> ((intro hc; try simp only [Int.reduceLT, Int.reduceLE, Int.reduceEq, Int.reduceNe, Int.cast_ofNat_Int, Int.reduceNeg, reduceCtorEq, ne_eq, ge_iff_le, gt_iff_lt, beq_iff_eq, beq_eq_false_iff_ne, bne_iff_ne, bne_eq_false_iff_eq, nrm, *] at hc) <;> try (exfalso; omega))
| ((with_reducible first | apply retF.r | apply retF.nn); case hv => exact tRS))
        all_goals exact ⟨_, rfl, hE⟩
theorem rbytes_call (m : Msg) (t1 t2 t3 : Tok) (h : AH) (hm : MOk m) (hg : goodM m = true) : Call P w0 ref08_Bytes [.agg (msgC m t1 t2 t3)] h (fun v h' => v = .list 1 (brows (bytesM m)) .no ∧ h' = h) :=
  Call.pure (brows_plain _ trivial) ((rbytes_raw m t1 t2 t3 h hm hg).weak fun v h' ⟨tk, hv, hE⟩ => ⟨_, _, hv ▸ .noTok, .refl _, rfl, hE⟩)
end Go.Abs.F
