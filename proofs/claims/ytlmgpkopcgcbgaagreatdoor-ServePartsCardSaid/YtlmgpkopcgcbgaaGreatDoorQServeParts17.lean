/- What the proof needs, part 17: Layer 4: the program's replies as texts: Format, Text, Plain. -/
import Derived.Test.YtlmgpkopcgcbgaaGreatDoorQServeParts14
import Derived.Test.YtlmgpkopcgcbgaaGreatDoorQServeParts13
import Derived.Test.YtlmgpkopcgcbgaaGreatDoorQServeParts16
import Derived.Laws.RangeString
import Derived.Laws.RangeAny
/- Layer 4: the program's replies as texts: Format, Text, Plain. -/
namespace Go.Abs.F
open Go Go.Abs
set_option maxRecDepth 10000
set_option maxHeartbeats 20000000
set_option linter.unusedSimpArgs false
set_option linter.unusedVariables false
variable {w0 : World}
def fine (b : UInt8) : Bool := decide (32 ≤ (b.toNat : Int)) && decide ((b.toNat : Int) ≤ 126)
def lineOk (s : List UInt8) : Bool := decide (s.length ≤ 400) && s.all fine
/-- A reply's line. -/
def fmtLine (c : Nat) (last : Bool) (s : List UInt8) : List UInt8 := udecS c ++ [if last then 32 else 45] ++ s ++ [13, 10]
def fmtGo (c : Nat) : List (List UInt8) → List UInt8
  | [] => []
  | s :: r => fmtLine c r.isEmpty s ++ fmtGo c r
def fmtOk (c : Int) (ls : List (List UInt8)) : Bool := decide (200 ≤ c) && decide (c ≤ 599) && !ls.isEmpty && ls.all lineOk
def fmtV (c : Int) (ls : List (List UInt8)) : AV := if fmtOk c ls then .tup [.v (.string (bs (fmtGo c.toNat ls))), .v (.int .i64 0)] else .tup [.v (.string (bs [])), .v (.int .i64 2)]
theorem drop_cons {α : Type} {l : List α} {i : Nat} {x : α} (hx : l[i]? = some x) : l.drop i = x :: l.drop (i + 1) := by
  obtain ⟨h, rfl⟩ := List.getElem?_eq_some_iff.1 hx
  exact List.drop_eq_getElem_cons h
theorem all_of_get {α : Type} {p : α → Bool} {l : List α} {i : Nat} {x : α} (hx : l[i]? = some x) (h : p x = false) : l.all p = false := by
  rw [List.all_eq_false]
  exact ⟨x, List.mem_of_getElem? hx, by simp [h]⟩
theorem fmtV_bad {c : Int} {ls : List (List UInt8)} (h : fmtOk c ls = false) : fmtV c ls = .tup [.v (.string (bs [])), .v (.int .i64 2)] := by rw [fmtV, h]; rfl
theorem fmtV_line {c : Int} {ls : List (List UInt8)} {i : Nat} {s : List UInt8} (hs : ls[i]? = some s) (h : lineOk s = false) : fmtV c ls = .tup [.v (.string (bs [])), .v (.int .i64 2)] := by
  apply fmtV_bad
  rw [fmtOk, all_of_get hs h, Bool.and_false]
theorem dec_low {s : List UInt8} {k : Nat} {x : UInt8} (hx : s[k]? = some x) (h : x.toNat < 128) : Utf8.decode (bs s) k = (x.toNat, 1) := by
  obtain ⟨hlt, rfl⟩ := List.getElem?_eq_some_iff.1 hx
  exact decode_ascii (bs s) k hlt h
theorem dec_high {s : List UInt8} {k : Nat} {x : UInt8} (hx : s[k]? = some x) (h : 128 ≤ x.toNat) : 128 ≤ (Utf8.decode (bs s) k).1 := by
  obtain ⟨hlt, rfl⟩ := List.getElem?_eq_some_iff.1 hx
  exact (decode_high (bs s) k hlt h).1
theorem plain_call (s : List UInt8) (h : AH) (hl : s.length ≤ 9000000000000000000) : Call P w0 reply_plain [.v (.string (bs s))] h (fun v h' => v = .v (.bool (lineOk s)) ∧ Ext h h') := by
  refine Call.bodyF b_reply_plain rfl rfl ?_
  unfold c_reply_plain
  repeat' (first
| ((with_reducible apply opsF.op rfl); case hs => first | exact tHT | exact tHS)
| (with_reducible first | apply opsF.nil | apply seqF.nn | apply vcF.seq | apply vcF.region | apply vcF.skip | apply vcF.block | apply vcF.exit | apply vcF.ret | apply vcF.loop | apply seqF.e | apply seqF.r | apply blkF.nn | apply blkF.e | apply blkF.r | apply blkF.o rfl)
| ((with_reducible apply opsF.call); case hx => exact tAG)
| ((with_reducible apply opsF.want); (case hg => exact tEV); case hb => exact tNB)
| ((with_reducible apply opsF.skip); (case hg => exact tEV); case hb => exact tNB)
| (first | ((with_reducible apply opsF.case); case hg => exact tEV) | ((with_reducible apply vcF.cond); case hx => exact tEV)) <;> ((intro hc; try simp only [Int.reduceLT, Int.reduceLE, Int.reduceEq, Int.reduceNe, Int.cast_ofNat_Int, Int.reduceNeg, reduceCtorEq, ne_eq, ge_iff_le, gt_iff_lt, beq_iff_eq, beq_eq_false_iff_ne, bne_iff_ne, bne_eq_false_iff_eq, nrm, *] at hc) <;> try (exfalso; omega))
| ((with_reducible apply opsF.und); case hg => rfl)
| ((with_reducible first | apply retF.r | apply retF.nn); case hv => exact tRS))
  refine LpF.ind rfl (fun k : Nat => s.length - k) (fun k σ h' => Ext h h' ∧ h'.objs h.n = some (.siter (bs s) k) ∧ σ 0 = .v (.string (bs s)) ∧ σ 6 = .ptr h.n 0 ∧ k ≤ s.length ∧ (s.take k).all fine = true) ?_ (i := 0) ⟨Ext.alloc _ _, by simp [alloc_at], rfl, rfl, Nat.zero_le _, rfl⟩
  rintro k σ h' ⟨hE, ho, h0, h6, hk, hf⟩
  rcases Nat.lt_or_ge k s.length with hlt | hge
  · obtain ⟨x, hx⟩ : ∃ x, s[k]? = some x := ⟨_, List.getElem?_eq_getElem hlt⟩
    by_cases hlow : x.toNat < 128
    · have hd := dec_low hx hlow
      repeat' (first
| ((with_reducible apply opsF.op rfl); case hs => first | exact tHT | exact tHS)
| (with_reducible first | apply opsF.nil | apply seqF.nn | apply vcF.seq | apply vcF.region | apply vcF.skip | apply vcF.block | apply vcF.exit | apply vcF.ret | apply vcF.loop | apply seqF.e | apply seqF.r | apply blkF.nn | apply blkF.e | apply blkF.r | apply blkF.o rfl)
| ((with_reducible apply opsF.call); case hx => exact tAG)
| ((with_reducible apply opsF.want); (case hg => exact tEV); case hb => exact tNB)
| ((with_reducible apply opsF.skip); (case hg => exact tEV); case hb => exact tNB)
| (first | ((with_reducible apply opsF.case); case hg => exact tEV) | ((with_reducible apply vcF.cond); case hx => exact tEV)) <;> ((intro hc; try simp only [Int.reduceLT, Int.reduceLE, Int.reduceEq, Int.reduceNe, Int.cast_ofNat_Int, Int.reduceNeg, reduceCtorEq, ne_eq, ge_iff_le, gt_iff_lt, beq_iff_eq, beq_eq_false_iff_ne, bne_iff_ne, bne_eq_false_iff_eq, nrm, *] at hc) <;> try (exfalso; omega))
| ((with_reducible apply opsF.und); case hg => rfl)
| ((with_reducible first | apply retF.r | apply retF.nn); case hv => exact tRS))
      · have hb : lineOk s = false := by rw [lineOk, all_of_get hx (by simp [fine]; omega), Bool.and_false]
        rw [hb]
        exact ⟨rfl, hE.set (Nat.le_refl _) _⟩
      · refine ⟨k + 1, by omega, hE.set (Nat.le_refl _) _, by simp [set_at], h0, h6, by omega, ?_⟩
        rw [List.take_add_one, hx, List.all_append, hf]
        simp [fine]; omega
      · have hb : lineOk s = false := by rw [lineOk, all_of_get hx (by simp [fine]; omega), Bool.and_false]
        rw [hb]
        exact ⟨rfl, hE.set (Nat.le_refl _) _⟩
    · have hd := dec_high hx (by omega)
      generalize hdd : Utf8.decode (bs s) k = rk at hd
      repeat' (first
| ((with_reducible apply opsF.op rfl); case hs => first | exact tHT | exact tHS)
| (with_reducible first | apply opsF.nil | apply seqF.nn | apply vcF.seq | apply vcF.region | apply vcF.skip | apply vcF.block | apply vcF.exit | apply vcF.ret | apply vcF.loop | apply seqF.e | apply seqF.r | apply blkF.nn | apply blkF.e | apply blkF.r | apply blkF.o rfl)
| ((with_reducible apply opsF.call); case hx => exact tAG)
| ((with_reducible apply opsF.want); (case hg => exact tEV); case hb => exact tNB)
| ((with_reducible apply opsF.skip); (case hg => exact tEV); case hb => exact tNB)
| (first | ((with_reducible apply opsF.case); case hg => exact tEV) | ((with_reducible apply vcF.cond); case hx => exact tEV)) <;> ((intro hc; try simp only [Int.reduceLT, Int.reduceLE, Int.reduceEq, Int.reduceNe, Int.cast_ofNat_Int, Int.reduceNeg, reduceCtorEq, ne_eq, ge_iff_le, gt_iff_lt, beq_iff_eq, beq_eq_false_iff_ne, bne_iff_ne, bne_eq_false_iff_eq, nrm, *] at hc) <;> try (exfalso; omega))
| ((with_reducible apply opsF.und); case hg => rfl)
| ((with_reducible first | apply retF.r | apply retF.nn); case hv => exact tRS))
      have hb : lineOk s = false := by rw [lineOk, all_of_get hx (by simp [fine]; omega), Bool.and_false]
      rw [hb]
      exact ⟨rfl, hE.set (Nat.le_refl _) _⟩
  · obtain rfl : k = s.length := by omega
    have hz : istep (.nxt (.tmp 6)) (evF σ) h' = some (.tup [.v (.bool false)], h') := by simp [istep, evF_tmp, h6, ho, bs_size]
    repeat' (first
| ((with_reducible apply opsF.op rfl); case hs => first | exact tHT | exact tHS)
| (with_reducible first | apply opsF.nil | apply seqF.nn | apply vcF.seq | apply vcF.region | apply vcF.skip | apply vcF.block | apply vcF.exit | apply vcF.ret | apply vcF.loop | apply seqF.e | apply seqF.r | apply blkF.nn | apply blkF.e | apply blkF.r | apply blkF.o rfl)
| ((with_reducible apply opsF.call); case hx => exact tAG)
| ((with_reducible apply opsF.want); (case hg => exact tEV); case hb => exact tNB)
| ((with_reducible apply opsF.skip); (case hg => exact tEV); case hb => exact tNB)
| (first | ((with_reducible apply opsF.case); case hg => exact tEV) | ((with_reducible apply vcF.cond); case hx => exact tEV)) <;> ((intro hc; try simp only [Int.reduceLT, Int.reduceLE, Int.reduceEq, Int.reduceNe, Int.cast_ofNat_Int, Int.reduceNeg, reduceCtorEq, ne_eq, ge_iff_le, gt_iff_lt, beq_iff_eq, beq_eq_false_iff_ne, bne_iff_ne, bne_eq_false_iff_eq, nrm, *] at hc) <;> try (exfalso; omega))
| ((with_reducible apply opsF.und); case hg => rfl)
| ((with_reducible first | apply retF.r | apply retF.nn); case hv => exact tRS)
| ((with_reducible apply opsF.op rfl); (case hs => exact hz)))
    rw [List.take_length] at hf
    refine ⟨?_, hE⟩
    rw [lineOk, hf, Bool.and_true]
    congr 2
    simp
    omega
def textS (n : Int) : List UInt8 :=
  if n = 220 then [114, 101, 97, 100, 121] else if n = 221 then [98, 121, 101] else if n = 250 then [111, 107] else if n = 252 then [109, 97, 121, 98, 101] else if n = 354 then [103, 111, 32, 111, 110]
  else if n = 421 then [110, 111, 116, 32, 110, 111, 119] else if n = 451 then [116, 114, 121, 32, 97, 103, 97, 105, 110] else if n = 452 then [110, 111, 32, 114, 111, 111, 109] else if n = 500 then [119, 104, 97, 116]
  else if n = 501 then [104, 111, 119] else if n = 503 then [111, 114, 100, 101, 114] else if n = 550 then [110, 111, 116, 32, 104, 101, 114, 101] else if n = 552 then [116, 111, 111, 32, 108, 97, 114, 103, 101]
  else if n = 554 then [110, 111] else if n = 555 then [111, 112, 116, 105, 111, 110, 115] else [111, 100, 100]
theorem text_call (n : Int) (h : AH) : Call P w0 reply_Text [.v (.int .i64 n)] h (fun v h' => v = .v (.string (bs (textS n))) ∧ h' = h) := by
  refine Call.bodyF b_reply_Text rfl rfl ?_
  unfold c_reply_Text
  repeat' (first
| ((with_reducible apply opsF.op rfl); case hs => first | exact tHT | exact tHS)
| (with_reducible first | apply opsF.nil | apply seqF.nn | apply vcF.seq | apply vcF.region | apply vcF.skip | apply vcF.block | apply vcF.exit | apply vcF.ret | apply vcF.loop | apply seqF.e | apply seqF.r | apply blkF.nn | apply blkF.e | apply blkF.r | apply blkF.o rfl)
| ((with_reducible apply opsF.call); case hx => exact tAG)
| ((with_reducible apply vcF.cond); case hx => exact tEV) <;> ((intro hc; try simp only [Int.reduceLT, Int.reduceLE, Int.reduceEq, Int.reduceNe, Int.cast_ofNat_Int, Int.reduceNeg, reduceCtorEq, ne_eq, ge_iff_le, gt_iff_lt, beq_iff_eq, beq_eq_false_iff_ne, bne_iff_ne, bne_eq_false_iff_eq, nrm, *] at hc) <;> try (exfalso; omega))
| ((with_reducible first | apply retF.r | apply retF.nn); case hv => exact tRS))
  all_goals refine ⟨?_, rfl⟩
  all_goals first | (subst_vars; rfl) | (simp [textS, *])
theorem pformat_call (hT : PowTab w0) (c : Int) (ls : List (List UInt8)) (tok : Tok) (h : AH) (hl : ls.length ≤ 1000) (hsz : ∀ s ∈ ls, s.length ≤ 140737488351232) : Call P w0 reply_Format [.agg [.v (.int .i64 c), .list 1 (srows ls) tok]] h
    (fun v h' => v = fmtV c ls ∧ Ext h h') := by
  have xl := srows_len
  have xg := srows_get
  by_cases hc0 : 200 ≤ c ∧ c ≤ 599 ∧ ls ≠ []
  · obtain ⟨hc1, hc2, hne⟩ := hc0
    obtain ⟨n, rfl⟩ : ∃ n : Nat, c = n := ⟨c.toNat, by omega⟩
    have hlen : 0 < ls.length := List.length_pos_iff.2 hne
    have hd := udecS_20 n (by omega)
    have hit : ∀ h, Call P w0 strconv_Itoa [.v (.int .i64 (n : Int))] h (fun v h' => v = .v (.string (bs (udecS n))) ∧ h' = h) := fun h => by
      have q := itoa_call hT (n : Int) h (by omega) (by omega)
      rwa [decS_nat] at q
    have hcd : decide (200 ≤ (n : Int) ∧ (n : Int) ≤ 599) = true := decide_eq_true ⟨hc1, hc2⟩
    refine Call.bodyF b_reply_Format rfl rfl ?_
    unfold c_reply_Format
    repeat' (first
| ((with_reducible apply opsF.op rfl); case hs => first | exact tHT | exact tHS)
| (with_reducible first | apply opsF.nil | apply seqF.nn | apply vcF.seq | apply vcF.region | apply vcF.skip | apply vcF.block | apply vcF.exit | apply vcF.ret | apply vcF.loop | apply seqF.e | apply seqF.r | apply blkF.nn | apply blkF.e | apply blkF.r | apply blkF.o rfl)
| ((with_reducible apply opsF.call); case hx => exact tAG)
| ((with_reducible apply opsF.want); (case hg => exact tEV); case hb => exact tNB)
| ((with_reducible apply opsF.skip); (case hg => exact tEV); case hb => exact tNB)
| (first | ((with_reducible apply opsF.case); case hg => exact tEV) | ((with_reducible apply vcF.cond); case hx => exact tEV)) <;> ((intro hc; try simp only [Int.reduceLT, Int.reduceLE, Int.reduceEq, Int.reduceNe, Int.cast_ofNat_Int, Int.reduceNeg, reduceCtorEq, ne_eq, ge_iff_le, gt_iff_lt, beq_iff_eq, beq_eq_false_iff_ne, bne_iff_ne, bne_eq_false_iff_eq, nrm, *] at hc) <;> try (exfalso; omega))
| ((with_reducible apply opsF.und); case hg => rfl)
| ((with_reducible first | apply retF.r | apply retF.nn); case hv => exact tRS)
| ((refine (code_call _ _).mono fun v h' hp => ?_); rw [hcd] at hp; obtain ⟨rfl, rfl⟩ := hp))
    refine LpF.ind rfl (fun i : Nat => ls.length - i) (fun i σ h' => Ext h h' ∧ h'.objs h.n = some (.cells [.v (.int .i64 n), .list 1 (srows ls) tok]) ∧ σ 1 = .ptr h.n 0 ∧ σ 4 = .ptr (h.n + 1) 0 ∧ σ 19 = .list 1 (srows ls) tok ∧ σ 20 = .v (.int .i64 (ls.length : Nat)) ∧ σ 21 = .v (.int .i64 (i : Nat)) ∧ i ≤ ls.length ∧ (ls.take i).all lineOk = true ∧
      ∃ pre : List UInt8, Bld h' (h.n + 1) pre ∧ pre.length ≤ 500 * i ∧ fmtGo n ls = pre ++ fmtGo n (ls.drop i)) ?_ (i := 0)
      ⟨(Ext.alloc _ _).trans (Ext.alloc _ _), by simp [alloc_at, alloc_n], rfl, rfl, rfl, rfl, rfl, Nat.zero_le _, rfl, [], ⟨by simp [alloc_n], .inl ⟨by simp [alloc_at, alloc_n], rfl⟩⟩, Nat.zero_le _, rfl⟩
    rintro i σ h' ⟨hE, ho, h1, h4, h19, h20, h21, hi, hok, pre, hB, hp, hS⟩
    have hBl := hB.1
    rcases Nat.lt_or_ge i ls.length with hlt | hge
    · obtain ⟨s, hs⟩ : ∃ s, ls[i]? = some s := ⟨_, List.getElem?_eq_getElem hlt⟩
      have hsl : s.length ≤ 9000000000000000000 := Nat.le_trans (hsz s (List.mem_of_getElem? hs)) (by omega)
      · cases hso : lineOk s with
        | false =>
          repeat' (first
| ((with_reducible apply opsF.op rfl); case hs => first | exact tHT | exact tHS)
| (with_reducible first | apply opsF.nil | apply seqF.nn | apply vcF.seq | apply vcF.region | apply vcF.skip | apply vcF.block | apply vcF.exit | apply vcF.ret | apply vcF.loop | apply seqF.e | apply seqF.r | apply blkF.nn | apply blkF.e | apply blkF.r | apply blkF.o rfl)
| ((with_reducible apply opsF.call); case hx => exact tAG)
| ((with_reducible apply opsF.want); (case hg => exact tEV); case hb => exact tNB)
| ((with_reducible apply opsF.skip); (case hg => exact tEV); case hb => exact tNB)
| (first | ((with_reducible apply opsF.case); case hg => exact tEV) | ((with_reducible apply vcF.cond); case hx => exact tEV)) <;> ((intro hc; try simp only [Int.reduceLT, Int.reduceLE, Int.reduceEq, Int.reduceNe, Int.cast_ofNat_Int, Int.reduceNeg, reduceCtorEq, ne_eq, ge_iff_le, gt_iff_lt, beq_iff_eq, beq_eq_false_iff_ne, bne_iff_ne, bne_eq_false_iff_eq, nrm, *] at hc) <;> try (exfalso; omega))
| ((with_reducible apply opsF.und); case hg => rfl)
| ((with_reducible first | apply retF.r | apply retF.nn); case hv => exact tRS)
| ((refine (plain_call s _ hsl).mono fun v h2 hp => ?_); rw [hso] at hp; obtain ⟨rfl, he⟩ := hp; have hN := he.n; have hO := he.objs; (try simp only [alloc_n, set_n, newTok_n, bump_n] at hN hO)))
          exact ⟨(fmtV_line hs hso).symm, hE.trans he⟩
        | true =>
          have hs4 : s.length ≤ 400 := by
            simp only [lineOk, Bool.and_eq_true, decide_eq_true_eq] at hso
            exact hso.1
          repeat' (first
| ((with_reducible apply opsF.op rfl); case hs => first | exact tHT | exact tHS)
| (with_reducible first | apply opsF.nil | apply seqF.nn | apply vcF.seq | apply vcF.region | apply vcF.skip | apply vcF.block | apply vcF.exit | apply vcF.ret | apply vcF.loop | apply seqF.e | apply seqF.r | apply blkF.nn | apply blkF.e | apply blkF.r | apply blkF.o rfl)
| ((with_reducible apply opsF.call); case hx => exact tAG)
| ((with_reducible apply opsF.want); (case hg => exact tEV); case hb => exact tNB)
| ((with_reducible apply opsF.skip); (case hg => exact tEV); case hb => exact tNB)
| (first | ((with_reducible apply opsF.case); case hg => exact tEV) | ((with_reducible apply vcF.cond); case hx => exact tEV)) <;> ((intro hc; try simp only [Int.reduceLT, Int.reduceLE, Int.reduceEq, Int.reduceNe, Int.cast_ofNat_Int, Int.reduceNeg, reduceCtorEq, ne_eq, ge_iff_le, gt_iff_lt, beq_iff_eq, beq_eq_false_iff_ne, bne_iff_ne, bne_eq_false_iff_eq, nrm, *] at hc) <;> try (exfalso; omega))
| ((with_reducible apply opsF.und); case hg => rfl)
| ((with_reducible first | apply retF.r | apply retF.nn); case hv => exact tRS)
| ((refine (plain_call s _ hsl).mono fun v h2 hp => ?_); rw [hso] at hp; obtain ⟨rfl, he⟩ := hp; have hN := he.n; have hO := he.objs; (try simp only [alloc_n, set_n, newTok_n, bump_n] at hN hO))
| ((refine (hit _).mono fun v h3 hp => ?_); obtain ⟨rfl, rfl⟩ := hp)
| ((refine (ws_call (h.n + 1) pre _ _ (hB.ext he) (by simp only [List.length_append, List.length_cons, List.length_nil]; omega)).mono fun v h4 hp => ?_); obtain ⟨rfl, hB2, hx2⟩ := hp))
          · have hemp : (ls.drop (i + 1)).isEmpty = true := by simp; omega
            have e4 : Ext h h4 := Ext.transX (hE.trans he) hx2 (fun i hi => by omega) (fun t ht => ht.elim)
            have ho4 : h4.objs h.n = h3.objs h.n := hx2.objs h.n (by omega) (by omega)
            refine ⟨i + 1, by omega, e4, ?_, h1, by assumption, h19, h20, (by first | rfl | ((conv => lhs; whnf); congr 2; omega)), by omega, ?_, _, hB2, ?_, ?_⟩
            · rw [ho4, hO h.n (by omega), ho]
            · rw [List.take_add_one, hs, List.all_append, hok]
              simp [hso]
            · simp; omega
            · rw [hS, drop_cons hs, fmtGo, hemp, fmtLine]
              simp [List.append_assoc]
          · have hemp : (ls.drop (i + 1)).isEmpty = false := by simp; omega
            have e4 : Ext h h4 := Ext.transX (hE.trans he) hx2 (fun i hi => by omega) (fun t ht => ht.elim)
            have ho4 : h4.objs h.n = h3.objs h.n := hx2.objs h.n (by omega) (by omega)
            refine ⟨i + 1, by omega, e4, ?_, h1, by assumption, h19, h20, (by first | rfl | ((conv => lhs; whnf); congr 2; omega)), by omega, ?_, _, hB2, ?_, ?_⟩
            · rw [ho4, hO h.n (by omega), ho]
            · rw [List.take_add_one, hs, List.all_append, hok]
              simp [hso]
            · simp; omega
            · rw [hS, drop_cons hs, fmtGo, hemp, fmtLine]
              simp [List.append_assoc]
    · obtain rfl : i = ls.length := by omega
      rw [List.drop_length, fmtGo, List.append_nil] at hS
      rw [List.take_length] at hok
      have hpne : pre ≠ [] := by
        rw [← hS]
        cases ls with
        | nil => exact absurd rfl hne
        | cons a r => simp [fmtGo, fmtLine]
      repeat' (first
| ((with_reducible apply opsF.op rfl); case hs => first | exact tHT | exact tHS)
| (with_reducible first | apply opsF.nil | apply seqF.nn | apply vcF.seq | apply vcF.region | apply vcF.skip | apply vcF.block | apply vcF.exit | apply vcF.ret | apply vcF.loop | apply seqF.e | apply seqF.r | apply blkF.nn | apply blkF.e | apply blkF.r | apply blkF.o rfl)
| ((with_reducible apply opsF.call); case hx => exact tAG)
| ((with_reducible apply opsF.want); (case hg => exact tEV); case hb => exact tNB)
| ((with_reducible apply opsF.skip); (case hg => exact tEV); case hb => exact tNB)
| (first | ((with_reducible apply opsF.case); case hg => exact tEV) | ((with_reducible apply vcF.cond); case hx => exact tEV)) <;> ((intro hc; try simp only [Int.reduceLT, Int.reduceLE, Int.reduceEq, Int.reduceNe, Int.cast_ofNat_Int, Int.reduceNeg, reduceCtorEq, ne_eq, ge_iff_le, gt_iff_lt, beq_iff_eq, beq_eq_false_iff_ne, bne_iff_ne, bne_eq_false_iff_eq, nrm, *] at hc) <;> try (exfalso; omega))
| ((with_reducible apply opsF.und); case hg => rfl)
| ((with_reducible first | apply retF.r | apply retF.nn); case hv => exact tRS)
| ((refine (str_call (h.n + 1) pre _ hB hpne (by omega)).mono fun v h3 hp => ?_); obtain ⟨rfl, rfl⟩ := hp))
      have hb : fmtOk n ls = true := by
        simp only [fmtOk, hok, Bool.and_true, Bool.and_eq_true, decide_eq_true_eq, Bool.not_eq_true', List.isEmpty_eq_false_iff]
        exact ⟨⟨hc1, hc2⟩, hne⟩
      refine ⟨?_, hE⟩
      rw [fmtV, hb, Int.toNat_natCast, hS]
      rfl
  · have hb : fmtV c ls = .tup [.v (.string (bs [])), .v (.int .i64 2)] := by
      apply fmtV_bad
      rw [Bool.eq_false_iff]
      intro hx
      simp only [fmtOk, Bool.and_eq_true, decide_eq_true_eq, Bool.not_eq_true', List.isEmpty_eq_false_iff] at hx
      exact hc0 ⟨hx.1.1.1, hx.1.1.2, hx.1.2⟩
    refine Call.bodyF b_reply_Format rfl rfl ?_
    unfold c_reply_Format
    by_cases hcc : 200 ≤ c ∧ c ≤ 599
    · have hcd : decide (200 ≤ c ∧ c ≤ 599) = true := decide_eq_true hcc
      have hnil : ls = [] := Classical.byContradiction fun hq => hc0 ⟨hcc.1, hcc.2, hq⟩
      subst hnil
      repeat' (first
| ((with_reducible apply opsF.op rfl); case hs => first | exact tHT | exact tHS)
| (with_reducible first | apply opsF.nil | apply seqF.nn | apply vcF.seq | apply vcF.region | apply vcF.skip | apply vcF.block | apply vcF.exit | apply vcF.ret | apply vcF.loop | apply seqF.e | apply seqF.r | apply blkF.nn | apply blkF.e | apply blkF.r | apply blkF.o rfl)
| ((with_reducible apply opsF.call); case hx => exact tAG)
| ((with_reducible apply opsF.want); (case hg => exact tEV); case hb => exact tNB)
| ((with_reducible apply opsF.skip); (case hg => exact tEV); case hb => exact tNB)
| (first | ((with_reducible apply opsF.case); case hg => exact tEV) | ((with_reducible apply vcF.cond); case hx => exact tEV)) <;> ((intro hc; try simp only [Int.reduceLT, Int.reduceLE, Int.reduceEq, Int.reduceNe, Int.cast_ofNat_Int, Int.reduceNeg, reduceCtorEq, ne_eq, ge_iff_le, gt_iff_lt, beq_iff_eq, beq_eq_false_iff_ne, bne_iff_ne, bne_eq_false_iff_eq, nrm, *] at hc) <;> try (exfalso; omega))
| ((with_reducible apply opsF.und); case hg => rfl)
| ((with_reducible first | apply retF.r | apply retF.nn); case hv => exact tRS)
| ((refine (code_call _ _).mono fun v h' hp => ?_); rw [hcd] at hp; obtain ⟨rfl, rfl⟩ := hp))
      all_goals exact ⟨hb.symm, Ext.alloc _ _⟩
    · have hcd : decide (200 ≤ c ∧ c ≤ 599) = false := decide_eq_false hcc
      repeat' (first
| ((with_reducible apply opsF.op rfl); case hs => first | exact tHT | exact tHS)
| (with_reducible first | apply opsF.nil | apply seqF.nn | apply vcF.seq | apply vcF.region | apply vcF.skip | apply vcF.block | apply vcF.exit | apply vcF.ret | apply vcF.loop | apply seqF.e | apply seqF.r | apply blkF.nn | apply blkF.e | apply blkF.r | apply blkF.o rfl)
| ((with_reducible apply opsF.call); case hx => exact tAG)
| ((with_reducible apply opsF.want); (case hg => exact tEV); case hb => exact tNB)
| ((with_reducible apply opsF.skip); (case hg => exact tEV); case hb => exact tNB)
| (first | ((with_reducible apply opsF.case); case hg => exact tEV) | ((with_reducible apply vcF.cond); case hx => exact tEV)) <;> ((intro hc; try simp only [Int.reduceLT, Int.reduceLE, Int.reduceEq, Int.reduceNe, Int.cast_ofNat_Int, Int.reduceNeg, reduceCtorEq, ne_eq, ge_iff_le, gt_iff_lt, beq_iff_eq, beq_eq_false_iff_ne, bne_iff_ne, bne_eq_false_iff_eq, nrm, *] at hc) <;> try (exfalso; omega))
| ((with_reducible apply opsF.und); case hg => rfl)
| ((with_reducible first | apply retF.r | apply retF.nn); case hv => exact tRS)
| ((refine (code_call _ _).mono fun v h' hp => ?_); rw [hcd] at hp; obtain ⟨rfl, rfl⟩ := hp))
      all_goals exact ⟨hb.symm, Ext.alloc _ _⟩
/-- The bytes of a reply. -/
def fmtB (c : Int) (ls : List (List UInt8)) : List UInt8 := if fmtOk c ls then fmtGo c.toNat ls else []
theorem fmtV_b (c : Int) (ls : List (List UInt8)) : ∃ k : Int, fmtV c ls = .tup [.v (.string (bs (fmtB c ls))), .v (.int .i64 k)] := by
  unfold fmtV fmtB
  cases fmtOk c ls with
  | true => exact ⟨0, rfl⟩
  | false => exact ⟨2, rfl⟩
theorem format_pure (hT : PowTab w0) (c : Int) (ls : List (List UInt8)) (tok : Tok) (h : AH) (hl : ls.length ≤ 1000) (hsz : ∀ s ∈ ls, s.length ≤ 140737488351232) : Call P w0 reply_Format [.agg [.v (.int .i64 c), .list 1 (srows ls) tok]] h
    (fun v h' => v = fmtV c ls ∧ h' = h) := by
  obtain ⟨k, e⟩ := fmtV_b c ls
  refine Call.gc (pformat_call hT c ls tok h hl hsz) fun v h' hq => ⟨?_, hq.2, hq.1⟩
  rw [hq.1, e]
  exact .tup fun j hj => (by match j, hj with | 0, _ => exact .v _ | 1, _ => exact .v _)
theorem len_ite {c : Prop} [Decidable c] {a b : List UInt8} {k : Nat} (ha : a.length ≤ k) (hb : b.length ≤ k) : (if c then a else b).length ≤ k := by
  by_cases h : c
  · rw [if_pos h]; exact ha
  · rw [if_neg h]; exact hb
theorem textS_len (n : Int) : (textS n).length ≤ 9 := by
  unfold textS
  repeat' (first | (refine len_ite (by decide) ?_) | decide)
/-- What a code says, as a reply. -/
def plainS (c : Int) : List UInt8 := fmtB c [textS c]
theorem pplain_call (hT : PowTab w0) (c : Int) (h : AH) : Call P w0 reply_Plain [.v (.int .i64 c)] h (fun v h' => v = .v (.string (bs (plainS c))) ∧ h' = h) := by
  have hf := fun tok h => format_pure (w0 := w0) hT c [textS c] tok h (by simp) (fun s hs => by
    rw [List.mem_singleton.1 hs]
    have := textS_len c
    omega)
  obtain ⟨k, e⟩ := fmtV_b c [textS c]
  rw [e] at hf
  have ht := fun h => text_call (w0 := w0) c h
  rw [show srows [textS c] = [[.v (.string (bs (textS c)))]] from rfl] at hf
  unfold plainS
  generalize textS c = T at *
  generalize fmtB c [T] = B at *
  refine Call.bodyF b_reply_Plain rfl rfl ?_
  unfold c_reply_Plain
  repeat' (first
| ((with_reducible apply opsF.op rfl); case hs => first | exact tHT | exact tHS)
| (with_reducible first | apply opsF.nil | apply seqF.nn | apply vcF.seq | apply vcF.region | apply vcF.skip | apply vcF.ret | apply seqF.r)
| ((with_reducible apply opsF.call); case hx => exact tAG)
| ((with_reducible apply vcF.cond); case hx => exact tEV) <;> ((intro hc; try simp only [Int.reduceLT, Int.reduceLE, Int.reduceEq, Int.reduceNe, Int.cast_ofNat_Int, Int.reduceNeg, reduceCtorEq, ne_eq, ge_iff_le, gt_iff_lt, beq_iff_eq, beq_eq_false_iff_ne, bne_iff_ne, bne_eq_false_iff_eq, nrm, *] at hc) <;> try (exfalso; omega))
| ((with_reducible first | apply retF.r | apply retF.nn); case hv => exact tRS)
| ((refine Call.use (ht _) ?_))
| ((refine Call.use (hf _ _) ?_))
| fail)
  all_goals exact ⟨rfl, rfl⟩
end Go.Abs.F
