/- Tables: what texts, words and tables are, in plain lists; searches. Tables: a parser's methods: hop, ban, size, a line. Tables: a parser's methods: size, a line. -/
import Derived.Test.YtnpdmkbfphcioaaGreatDoorAdrB
import Derived.Test.YtnpdmkbfphcioaaGreatDoorWk
import Derived.Test.YtnpdmkbfphcioaaGreatDoorFn1
namespace Go.Abs.F
open Go Go.Abs
set_option maxRecDepth 10000
set_option maxHeartbeats 20000000
set_option linter.unusedSimpArgs false
set_option linter.unusedVariables false
variable {w0 : World}
theorem Call.pure {f : FuncId} {args : List AV} {h : AH} {x : AV} (hp : Plain x) (hc : Call P w0 f args h fun v h' => v = x ∧ Ext h h') : Call P w0 f args h fun v h' => v = x ∧ h' = h :=
  hc.gc fun v h' hq => ⟨hq.1 ▸ hp, hq.2, hq.1⟩
theorem optV_plain (o : Option (List UInt8)) : Plain (optV o) := by
  cases o <;> exact Plain.tupv fun x hx => by
    simp only [List.mem_cons, List.not_mem_nil, or_false] at hx
    rcases hx with rfl | rfl <;> exact .v _
theorem low_p (s : List UInt8) (h : AH) (hl : s.length ≤ 1000000000) : Call P w0 addr_Lower [.v (.string (bs s))] h (fun v h' => v = .v (.string (bs (lowerS s))) ∧ h' = h) := Call.pure (.v _) (lower_call s h (by omega))
theorem dom_p (s : List UInt8) (h : AH) (hl : s.length ≤ 1000000000) : Call P w0 addr_Domain [.v (.string (bs s))] h (fun v h' => v = .v (.bool (domainS s)) ∧ h' = h) := Call.pure (.v _) (domain_call s h hl)
theorem canon_p (s : List UInt8) (h : AH) (hl : s.length ≤ 1000000000) : Call P w0 addr_Canon [.v (.string (bs s))] h (fun v h' => v = optV (canonO s) ∧ h' = h) := Call.pure (optV_plain _) (canon_call s h hl)
theorem rlow_p (s : List UInt8) (h : AH) (hl : s.length ≤ 1000000000) : Call P w0 ref01_Lower [.v (.string (bs s))] h (fun v h' => v = .v (.string (bs (lowerS s))) ∧ h' = h) := Call.pure (.v _) (rlower_call s h (by omega))
theorem rdom_p (s : List UInt8) (h : AH) (hl : s.length ≤ 1000000000) : Call P w0 ref01_Domain [.v (.string (bs s))] h (fun v h' => v = .v (.bool (domainS s)) ∧ h' = h) := Call.pure (.v _) (rdomain_call s h (by omega))
theorem rcanon_p (s : List UInt8) (h : AH) (hl : s.length ≤ 1000000000) : Call P w0 ref01_Canon [.v (.string (bs s))] h (fun v h' => v = optV (canonO s) ∧ h' = h) := Call.pure (optV_plain _) (rcanon_call s h (by omega))
abbrev AliasT := List UInt8 × List (List UInt8)
abbrev TB := List AliasT × List (List UInt8 × List UInt8) × List (Bool × List UInt8) × Int
def zeroT : TB := ([], [], [], 0)
/-- All of them in small letters, if all are mailboxes. -/
def canonsO : List (List UInt8) → Option (List (List UInt8))
  | [] => some []
  | w :: ws => match canonO w, canonsO ws with
    | some c, some cs => some (c :: cs)
    | _, _ => none
def aliasO (t : TB) (ws : List (List UInt8)) : Option TB := match canonsO ws with
  | some (a :: b :: r) => if t.1.any (fun x => decide (x.1 = a)) then none else some (t.1 ++ [(a, b :: r)], t.2)
  | _ => none
def hopD (w : List UInt8) : List UInt8 := if w = [42] then [42] else lowerS w
def hopO (t : TB) : List (List UInt8) → Option TB
  | [a, b] => if (decide (a = [42]) || domainS a) && domainS b && !(t.2.1.any fun x => decide (x.1 = hopD a)) then some (t.1, t.2.1 ++ [(hopD a, lowerS b)], t.2.2) else none
  | _ => none
def banN (w : List UInt8) : Option (List UInt8) := if w.contains 64 then canonO w else if domainS w then some (lowerS w) else none
def banO (t : TB) : List (List UInt8) → Option TB
  | [a, b] => if a = [102, 114, 111, 109] ∨ a = [116, 111] then (banN b).map fun n => (t.1, t.2.1, t.2.2.1 ++ [(decide (a = [102, 114, 111, 109]), n)], t.2.2.2) else none
  | _ => none
def sizeN (w : List UInt8) : Option Int := match Lib.atoiAll w with
  | .ok n => if decS n = w ∧ 1 ≤ n ∧ n ≤ 65536 then some n else none
  | _ => none
def sizeO (t : TB) : List (List UInt8) → Option TB
  | [w] => if t.2.2.2 > 0 then none else (sizeN w).map fun n => (t.1, t.2.1, t.2.2.1, n)
  | _ => none
def entryO (t : TB) : List (List UInt8) → Option TB
  | [] => none
  | k :: ws => if k = [97, 108, 105, 97, 115] then aliasO t ws else if k = [104, 111, 112] then hopO t ws else if k = [98, 97, 110] then banO t ws else if k = [115, 105, 122, 101] then sizeO t ws else none
def skipB (l : List UInt8) : Bool := l.isEmpty || decide (l.head? = some 35)
/-- The lines of a text. -/
def linesS (s : List UInt8) : List (List UInt8) := if (splB 10 s).getLast? = some [] then (splB 10 s).dropLast else splB 10 s
/-- The lines, from one on; what there is ahead: the tables, how many lines, how many entries. -/
def tparse : List (List UInt8) → Nat → Nat → TB → TB × Nat × Nat
  | [], _, _, t => (t, 0, 0)
  | l :: ls, k, n, t => if skipB l then tparse ls (k + 1) n t else match entryO t (splB 32 l) with
    | some t' => if n + 1 ≤ 200 then tparse ls (k + 1) (n + 1) t' else (zeroT, k + 1, 7)
    | none => (zeroT, k + 1, 7)
def tableS (s : List UInt8) : TB × Nat × Nat := if s.length > 16384 then (zeroT, 0, 9) else tparse (linesS s) 0 0 zeroT
/-! as values -/
def arow (a : AliasT) : List AV := [.v (.string (bs a.1)), .list 1 (srows a.2) .no]
def hrow (a : List UInt8 × List UInt8) : List AV := [.v (.string (bs a.1)), .v (.string (bs a.2))]
def brow (a : Bool × List UInt8) : List AV := [.v (.bool a.1), .v (.string (bs a.2))]
def tabC (t : TB) (t1 t2 t3 : Tok) : List AV := [.list 2 (t.1.map arow) t1, .list 2 (t.2.1.map hrow) t2, .list 2 (t.2.2.1.map brow) t3, .v (.int .i64 t.2.2.2)]
/-! searches -/
theorem idxfG {f : FuncId} (hb : HasBody P f 19 c_slices_IndexFunc_api_Alias_api_Alias [.tmp 4]) (fn : FuncId) (caps : List AV) {α : Type} (g : α → List AV) (p : α → Bool) (l : List α) (tok : Tok) (h : AH) (hs : ∀ x ∈ l, (g x).length = 2)
    (hp : ∀ x ∈ l, Call P w0 fn (.agg (g x) :: caps) h fun v h' => v = .v (.bool (p x)) ∧ h' = h) (hl : l.length ≤ 1000000000000) :
    Call P w0 f [.list 2 (l.map g) tok, .func (.func fn) [] caps] h (fun v h' => (∃ n : Int, v = .v (.int .i64 n) ∧ decide (0 ≤ n) = l.any p) ∧ h' = h) := by
  refine Call.bodyF hb rfl rfl ?_
  unfold c_slices_IndexFunc_api_Alias_api_Alias
  have hlg : (l.map g).length = l.length := List.length_map ..
  obtain ⟨rows, hrows⟩ : ∃ rows, rows = l.map g := ⟨_, rfl⟩
  rw [← hrows] at hlg ⊢
  repeat' (first
    | ((with_reducible apply opsF.op rfl); (case hs => (first | exact tHT | exact tHS)))
    | with_reducible (first | apply opsF.nil | apply seqF.nn | apply vcF.seq | apply vcF.region | apply vcF.skip | apply vcF.block | apply vcF.exit | apply vcF.ret | apply vcF.loop | apply seqF.e | apply seqF.r | apply blkF.nn | apply blkF.e | apply blkF.r | apply blkF.o rfl)
    | ((with_reducible apply opsF.call); (case hx => exact tAG))
    | (first | ((with_reducible apply vcF.cond); (case hx => exact tEV))) <;> ((intro hc; try simp only [Int.reduceLT, Int.reduceLE, Int.reduceEq, Int.reduceNe, Int.cast_ofNat_Int, Int.reduceNeg, decide_true, decide_false, not_true_eq_false, not_false_eq_true, decide_eq_true_eq, decide_eq_false_iff_not, Bool.not_eq_true', Bool.not_eq_false', Bool.not_true, Bool.not_false, Bool.false_eq_true, Bool.true_eq_false, Bool.not_eq_true, Bool.not_eq_false, beq_iff_eq, beq_eq_false_iff_ne, bne_iff_ne, bne_eq_false_iff_eq, ne_eq, Int.not_lt, Int.not_le, ge_iff_le, gt_iff_lt, Decidable.not_not, reduceCtorEq, *] at hc) <;> (try (exfalso; omega)))
    | ((with_reducible apply opsF.callv); (case hf => exact tEV); (case hx => exact tCV))
    | ((with_reducible apply retF.r); (case hv => exact tRS))
    | ((with_reducible apply retF.nn); (case hv => exact tRS)))
  refine LpF.ind rfl (fun i : Nat => l.length - i) (fun i σ h' => h' = h ∧ σ 0 = .list 2 rows tok ∧ σ 1 = .func (.func fn) [] caps ∧ σ 7 = .v (.int .i64 (l.length : Nat)) ∧ σ 8 = .v (.int .i64 (i : Nat)) ∧ i ≤ l.length ∧ (l.take i).any p = false) ?_ (i := 0) ⟨rfl, rfl, rfl, by rw [← hlg]; rfl, rfl, Nat.zero_le _, rfl⟩
  rintro i σ h' ⟨rfl, h0, h1, h7, h8, hi, ha⟩
  rcases Nat.lt_or_ge i l.length with hlt | hge
  · obtain ⟨x, hx⟩ : ∃ x, l[i]? = some x := ⟨_, List.getElem?_eq_getElem hlt⟩
    have hpx := hp x (List.mem_of_getElem? hx)
    have hxl := hs x (List.mem_of_getElem? hx)
    have hxr : rows[i]? = some (g x) := by rw [hrows, List.getElem?_map, hx]; rfl
    have hrd : rd (g x) 0 (some 2) = some (.agg (g x)) := by
      simp only [rd, hxl, List.drop_zero]
      rw [if_pos (by omega), ← hxl, List.take_length]
    clear hrows hxl hs hp
    cases hb : p x with
    | true =>
      have hf := any_get hx hb
      rw [hf]
      rw [hb] at hpx
      clear hx
      repeat' (first
    | ((with_reducible apply opsF.op rfl); (case hs => (first | exact tHT | exact tHS)))
    | with_reducible (first | apply opsF.nil | apply seqF.nn | apply vcF.seq | apply vcF.region | apply vcF.skip | apply vcF.block | apply vcF.exit | apply vcF.ret | apply vcF.loop | apply seqF.e | apply seqF.r | apply blkF.nn | apply blkF.e | apply blkF.r | apply blkF.o rfl)
    | ((with_reducible apply opsF.call); (case hx => exact tAG))
    | (first | ((with_reducible apply vcF.cond); (case hx => exact tEV))) <;> ((intro hc; try simp only [Int.reduceLT, Int.reduceLE, Int.reduceEq, Int.reduceNe, Int.cast_ofNat_Int, Int.reduceNeg, decide_true, decide_false, not_true_eq_false, not_false_eq_true, decide_eq_true_eq, decide_eq_false_iff_not, Bool.not_eq_true', Bool.not_eq_false', Bool.not_true, Bool.not_false, Bool.false_eq_true, Bool.true_eq_false, Bool.not_eq_true, Bool.not_eq_false, beq_iff_eq, beq_eq_false_iff_ne, bne_iff_ne, bne_eq_false_iff_eq, ne_eq, Int.not_lt, Int.not_le, ge_iff_le, gt_iff_lt, Decidable.not_not, reduceCtorEq, *] at hc) <;> (try (exfalso; omega)))
    | ((with_reducible apply opsF.callv); (case hf => exact tEV); (case hx => exact tCV))
    | ((with_reducible apply retF.r); (case hv => exact tRS))
    | ((with_reducible apply retF.nn); (case hv => exact tRS))
    | ((with_reducible apply opsF.op rfl); (case hs => ((with_reducible apply is_loadl); (case hx => exact tEV); (case hv => exact hrd))))
    | ((refine Call.use hpx ?_)))
      all_goals exact ⟨⟨_, rfl, by simp⟩, rfl⟩
    | false =>
      rw [hb] at hpx
      have hx' := hx
      clear hx
      repeat' (first
    | ((with_reducible apply opsF.op rfl); (case hs => (first | exact tHT | exact tHS)))
    | with_reducible (first | apply opsF.nil | apply seqF.nn | apply vcF.seq | apply vcF.region | apply vcF.skip | apply vcF.block | apply vcF.exit | apply vcF.ret | apply vcF.loop | apply seqF.e | apply seqF.r | apply blkF.nn | apply blkF.e | apply blkF.r | apply blkF.o rfl)
    | ((with_reducible apply opsF.call); (case hx => exact tAG))
    | (first | ((with_reducible apply vcF.cond); (case hx => exact tEV))) <;> ((intro hc; try simp only [Int.reduceLT, Int.reduceLE, Int.reduceEq, Int.reduceNe, Int.cast_ofNat_Int, Int.reduceNeg, decide_true, decide_false, not_true_eq_false, not_false_eq_true, decide_eq_true_eq, decide_eq_false_iff_not, Bool.not_eq_true', Bool.not_eq_false', Bool.not_true, Bool.not_false, Bool.false_eq_true, Bool.true_eq_false, Bool.not_eq_true, Bool.not_eq_false, beq_iff_eq, beq_eq_false_iff_ne, bne_iff_ne, bne_eq_false_iff_eq, ne_eq, Int.not_lt, Int.not_le, ge_iff_le, gt_iff_lt, Decidable.not_not, reduceCtorEq, *] at hc) <;> (try (exfalso; omega)))
    | ((with_reducible apply opsF.callv); (case hf => exact tEV); (case hx => exact tCV))
    | ((with_reducible apply retF.r); (case hv => exact tRS))
    | ((with_reducible apply retF.nn); (case hv => exact tRS))
    | ((with_reducible apply opsF.op rfl); (case hs => ((with_reducible apply is_loadl); (case hx => exact tEV); (case hv => exact hrd))))
    | ((refine Call.use hpx ?_)))
      refine ⟨i + 1, by omega, rfl, h0, h1, h7, rfl, by omega, ?_⟩
      rw [List.take_add_one, hx', List.any_append, ha]
      simp [hb]
  · obtain rfl : i = l.length := by omega
    rw [List.take_length] at ha
    rw [ha]
    clear hrows
    repeat' (first
    | ((with_reducible apply opsF.op rfl); (case hs => (first | exact tHT | exact tHS)))
    | with_reducible (first | apply opsF.nil | apply seqF.nn | apply vcF.seq | apply vcF.region | apply vcF.skip | apply vcF.block | apply vcF.exit | apply vcF.ret | apply vcF.loop | apply seqF.e | apply seqF.r | apply blkF.nn | apply blkF.e | apply blkF.r | apply blkF.o rfl)
    | ((with_reducible apply opsF.call); (case hx => exact tAG))
    | (first | ((with_reducible apply vcF.cond); (case hx => exact tEV))) <;> ((intro hc; try simp only [Int.reduceLT, Int.reduceLE, Int.reduceEq, Int.reduceNe, Int.cast_ofNat_Int, Int.reduceNeg, decide_true, decide_false, not_true_eq_false, not_false_eq_true, decide_eq_true_eq, decide_eq_false_iff_not, Bool.not_eq_true', Bool.not_eq_false', Bool.not_true, Bool.not_false, Bool.false_eq_true, Bool.true_eq_false, Bool.not_eq_true, Bool.not_eq_false, beq_iff_eq, beq_eq_false_iff_ne, bne_iff_ne, bne_eq_false_iff_eq, ne_eq, Int.not_lt, Int.not_le, ge_iff_le, gt_iff_lt, Decidable.not_not, reduceCtorEq, *] at hc) <;> (try (exfalso; omega)))
    | ((with_reducible apply opsF.callv); (case hf => exact tEV); (case hx => exact tCV))
    | ((with_reducible apply retF.r); (case hv => exact tRS))
    | ((with_reducible apply retF.nn); (case hv => exact tRS)))
    exact ⟨⟨_, rfl, by simp⟩, rfl⟩
theorem confA (fn : FuncId) (caps : List AV) {α : Type} (g : α → List AV) (p : α → Bool) (l : List α) (tok : Tok) (h : AH) (hs : ∀ x ∈ l, (g x).length = 2)
    (hp : ∀ x ∈ l, Call P w0 fn (.agg (g x) :: caps) h fun v h' => v = .v (.bool (p x)) ∧ h' = h) (hl : l.length ≤ 1000000000000) :
    Call P w0 slices_ContainsFunc_api_Alias_api_Alias [.list 2 (l.map g) tok, .func (.func fn) [] caps] h (fun v h' => v = .v (.bool (l.any p)) ∧ h' = h) := by
  refine Call.bodyF b_slices_ContainsFunc_api_Alias_api_Alias rfl rfl ?_
  unfold c_slices_ContainsFunc_api_Alias_api_Alias
  repeat' (first
    | ((with_reducible apply opsF.op rfl); (case hs => (first | exact tHT | exact tHS)))
    | with_reducible (first | apply opsF.nil | apply seqF.nn | apply vcF.seq | apply vcF.region | apply vcF.skip | apply vcF.ret | apply seqF.r)
    | ((with_reducible apply opsF.call); (case hx => exact tAG))
    | (first | ((with_reducible apply vcF.cond); (case hx => exact tEV))) <;> ((intro hc; try simp only [Int.reduceLT, Int.reduceLE, Int.reduceEq, Int.reduceNe, Int.cast_ofNat_Int, Int.reduceNeg, decide_true, decide_false, not_true_eq_false, not_false_eq_true, decide_eq_true_eq, decide_eq_false_iff_not, Bool.not_eq_true', Bool.not_eq_false', Bool.not_true, Bool.not_false, Bool.false_eq_true, Bool.true_eq_false, Bool.not_eq_true, Bool.not_eq_false, beq_iff_eq, beq_eq_false_iff_ne, bne_iff_ne, bne_eq_false_iff_eq, ne_eq, Int.not_lt, Int.not_le, ge_iff_le, gt_iff_lt, Decidable.not_not, reduceCtorEq, *] at hc) <;> (try (exfalso; omega)))
    | ((with_reducible apply retF.r); (case hv => exact tRS))
    | ((with_reducible apply retF.nn); (case hv => exact tRS))
    | ((refine (idxfG b_slices_IndexFunc_api_Alias_api_Alias fn caps g p l tok _ hs hp hl).mono fun v h2 hq => ?_); obtain ⟨⟨n, rfl, hn⟩, rfl⟩ := hq))
  exact ⟨rfl, rfl⟩
theorem confH (fn : FuncId) (caps : List AV) {α : Type} (g : α → List AV) (p : α → Bool) (l : List α) (tok : Tok) (h : AH) (hs : ∀ x ∈ l, (g x).length = 2)
    (hp : ∀ x ∈ l, Call P w0 fn (.agg (g x) :: caps) h fun v h' => v = .v (.bool (p x)) ∧ h' = h) (hl : l.length ≤ 1000000000000) :
    Call P w0 slices_ContainsFunc_api_Hop_api_Hop [.list 2 (l.map g) tok, .func (.func fn) [] caps] h (fun v h' => v = .v (.bool (l.any p)) ∧ h' = h) := by
  refine Call.bodyF b_slices_ContainsFunc_api_Hop_api_Hop rfl rfl ?_
  unfold c_slices_ContainsFunc_api_Hop_api_Hop
  repeat' (first
    | ((with_reducible apply opsF.op rfl); (case hs => (first | exact tHT | exact tHS)))
    | with_reducible (first | apply opsF.nil | apply seqF.nn | apply vcF.seq | apply vcF.region | apply vcF.skip | apply vcF.ret | apply seqF.r)
    | ((with_reducible apply opsF.call); (case hx => exact tAG))
    | (first | ((with_reducible apply vcF.cond); (case hx => exact tEV))) <;> ((intro hc; try simp only [Int.reduceLT, Int.reduceLE, Int.reduceEq, Int.reduceNe, Int.cast_ofNat_Int, Int.reduceNeg, decide_true, decide_false, not_true_eq_false, not_false_eq_true, decide_eq_true_eq, decide_eq_false_iff_not, Bool.not_eq_true', Bool.not_eq_false', Bool.not_true, Bool.not_false, Bool.false_eq_true, Bool.true_eq_false, Bool.not_eq_true, Bool.not_eq_false, beq_iff_eq, beq_eq_false_iff_ne, bne_iff_ne, bne_eq_false_iff_eq, ne_eq, Int.not_lt, Int.not_le, ge_iff_le, gt_iff_lt, Decidable.not_not, reduceCtorEq, *] at hc) <;> (try (exfalso; omega)))
    | ((with_reducible apply retF.r); (case hv => exact tRS))
    | ((with_reducible apply retF.nn); (case hv => exact tRS))
    | ((refine (idxfG (f := slices_IndexFunc_api_Hop_api_Hop) b_slices_IndexFunc_api_Hop_api_Hop fn caps g p l tok _ hs hp hl).mono fun v h2 hq => ?_); obtain ⟨⟨n, rfl, hn⟩, rfl⟩ := hq))
  exact ⟨rfl, rfl⟩
theorem doma_p (s : List UInt8) (h : AH) (hl : s.length ≤ 1000000000) : Call P w0 table_domain [.v (.string (bs s))] h (fun v h' => v = .tup [.v (.string (bs (lowerS s))), .v (.bool (domainS s))] ∧ h' = h) := by
  refine Call.bodyF b_table_domain rfl rfl ?_
  unfold c_table_domain
  repeat' (first
    | ((with_reducible apply opsF.op rfl); (case hs => (first | exact tHT | exact tHS)))
    | with_reducible (first | apply opsF.nil | apply seqF.nn | apply vcF.seq | apply vcF.region | apply vcF.skip | apply vcF.ret | apply seqF.r)
    | ((with_reducible apply opsF.call); (case hx => exact tAG))
    | (first | ((with_reducible apply vcF.cond); (case hx => exact tEV))) <;> ((intro hc; try simp only [Int.reduceLT, Int.reduceLE, Int.reduceEq, Int.reduceNe, Int.cast_ofNat_Int, Int.reduceNeg, decide_true, decide_false, not_true_eq_false, not_false_eq_true, decide_eq_true_eq, decide_eq_false_iff_not, Bool.not_eq_true', Bool.not_eq_false', Bool.not_true, Bool.not_false, Bool.false_eq_true, Bool.true_eq_false, Bool.not_eq_true, Bool.not_eq_false, beq_iff_eq, beq_eq_false_iff_ne, bne_iff_ne, bne_eq_false_iff_eq, ne_eq, Int.not_lt, Int.not_le, ge_iff_le, gt_iff_lt, Decidable.not_not, reduceCtorEq, *] at hc) <;> (try (exfalso; omega)))
    | ((with_reducible apply retF.r); (case hv => exact tRS))
    | ((with_reducible apply retF.nn); (case hv => exact tRS))
    | ((refine Call.use (low_p s _ hl) ?_))
    | ((refine Call.use (dom_p s _ hl) ?_)))
  exact ⟨rfl, rfl⟩
/-- The tables of a parser, in its first cells. -/
structure TS (B : Nat) (h : AH) (id : Nat) (t : TB) (rest : List AV) (t1 t2 t3 : Tok) : Prop where
  ob : h.objs id = some (.cells (tabC t t1 t2 t3 ++ rest))
  lt : id < h.n
  nt : B ≤ h.nt
  u1 : TokU h t1
  u2 : TokU h t2
  u3 : TokU h t3
  d12 : ∀ x, t1.owner = some x → t2.owner ≠ some x
  d13 : ∀ x, t1.owner = some x → t3.owner ≠ some x
  d23 : ∀ x, t2.owner = some x → t3.owner ≠ some x
  b1 : ∀ x, t1.owner = some x → B ≤ x
  b2 : ∀ x, t2.owner = some x → B ≤ x
  b3 : ∀ x, t3.owner = some x → B ≤ x
theorem tokU_lt {h : AH} {t : Tok} (u : TokU h t) {x : Nat} (hx : t.owner = some x) : x < h.nt := by
  cases t with
  | no => cases hx
  | full => cases hx
  | own a v => cases hx; exact u.2
/-- All but an object and late tokens stays. -/
abbrev ExtI (B id : Nat) : AH → AH → Prop := ExtX (fun i => i = id) (fun t => B ≤ t)
theorem tokU_keep {h h' : AH} {tk tok : Tok} (k : TokU h tok) (e : ExtX (fun _ => False) (fun t => tk.owner = some t) h h') (d : ∀ x, tk.owner = some x → tok.owner ≠ some x) : TokU h' tok := by
  cases tok with
  | no => exact k
  | full => trivial
  | own t v => exact ⟨k.1.trans (e.ver t k.2 fun e => d t e rfl).symm, Nat.lt_of_lt_of_le k.2 e.nt⟩
theorem aliasC_p (a : AliasT) (l0 : List UInt8) (id : Nat) (tk : Tok) (h : AH) (acc : List (List UInt8)) (ho : h.objs id = some (.cells [.list 1 (srows acc) tk])) (hlt : id < h.n) (hg : acc[0]? = some l0) :
    Call P w0 table_parser_alias_1 [.agg (arow a), .ptr id 0] h (fun v h' => v = .v (.bool (decide (a.1 = l0))) ∧ h' = h) := by
  refine Call.pure (.v _) ?_
  have xg := srows_get
  refine Call.bodyF b_table_parser_alias_1 rfl rfl ?_
  unfold c_table_parser_alias_1 arow
  repeat' (first
    | ((with_reducible apply opsF.op rfl); (case hs => (first | exact tHT | exact tHS)))
    | with_reducible (first | apply opsF.nil | apply seqF.nn | apply vcF.seq | apply vcF.region | apply vcF.skip | apply vcF.ret | apply seqF.r)
    | ((with_reducible apply opsF.call); (case hx => exact tAG))
    | (first | ((with_reducible apply vcF.cond); (case hx => exact tEV))) <;> ((intro hc; try simp only [Int.reduceLT, Int.reduceLE, Int.reduceEq, Int.reduceNe, Int.cast_ofNat_Int, Int.reduceNeg, decide_true, decide_false, not_true_eq_false, not_false_eq_true, decide_eq_true_eq, decide_eq_false_iff_not, Bool.not_eq_true', Bool.not_eq_false', Bool.not_true, Bool.not_false, Bool.false_eq_true, Bool.true_eq_false, Bool.not_eq_true, Bool.not_eq_false, beq_iff_eq, beq_eq_false_iff_ne, bne_iff_ne, bne_eq_false_iff_eq, ne_eq, Int.not_lt, Int.not_le, ge_iff_le, gt_iff_lt, Decidable.not_not, reduceCtorEq, *] at hc) <;> (try (exfalso; omega)))
    | ((with_reducible apply retF.r); (case hv => exact tRS))
    | ((with_reducible apply retF.nn); (case hv => exact tRS)))
  all_goals exact ⟨rfl, Ext.alloc _ _⟩
theorem canonO_len {w c : List UInt8} (h : canonO w = some c) : c.length ≤ w.length + 1 := by
  rw [canonO, splitO] at h
  split at h
  · simp only [Option.map_some, Option.some.injEq] at h
    rename_i hh
    rcases cutB_cases 64 w with ⟨g1, g2⟩ | ⟨a, r, rfl, g2, g3⟩
    · rw [g2] at hh
      simp at hh
    · rw [g3] at h
      rw [← h]
      simp [lowerS]
  · simp at h
/-- What a method of a parser does. -/
def MethP (B : Nat) (h : AH) (id : Nat) (o : Option TB) (rest : List AV) (v : AV) (h' : AH) : Prop :=
  v = .v (.bool o.isSome) ∧ ExtI B id h h' ∧ ∀ t', o = some t' → ∃ t1 t2 t3, TS B h' id t' rest t1 t2 t3
/-- The row that alias adds is known less and less. -/
theorem arows_le (l : List AliasT) (l0 : List UInt8) (r : List (List UInt8)) (tk t1 : Tok) : (AV.list 2 (l.map arow ++ [[.v (.string (bs l0)), .list 1 (srows r) tk]]) t1).le (.list 2 ((l ++ [(l0, r)]).map arow) t1) := by
  refine AV.le.list (by simp) fun i hi hi' => ?_
  simp only [List.map_append, List.map_cons, List.map_nil]
  rcases Nat.lt_or_ge i l.length with h | h
  · rw [List.getElem_append_left (by simpa using h), List.getElem_append_left (by simpa using h)]
    exact .refl _
  · have hi2 : i = l.length := by simp at hi; omega
    subst hi2
    rw [List.getElem_append_right (by simp), List.getElem_append_right (by simp)]
    simp only [List.length_map, Nat.sub_self, List.getElem_cons_zero]
    exact .cons (.refl _) (.one AV.le.noTok)
theorem alias_raw (B : Nat) (id : Nat) (t : TB) (rest : List AV) (t1 t2 t3 : Tok) (ws : List (List UInt8)) (tkw : Tok) (h : AH) (hT : TS B h id t rest t1 t2 t3) (hw : ∀ w ∈ ws, w.length ≤ 1000000) (hl : ws.length ≤ 1000000) (htl : t.1.length ≤ 1000000) :
    Call P w0 table_parser_alias [.ptr id 0, .list 1 (srows ws) tkw] h fun v h' => v = .v (.bool (aliasO t ws).isSome) ∧ ExtI B id h h' ∧ ∀ t', aliasO t ws = some t' → ∃ l0 r tk t1', t' = (t.1 ++ [(l0, r)], t.2) ∧
      h'.objs id = some (.cells (.list 2 (t.1.map arow ++ [[.v (.string (bs l0)), .list 1 (srows r) tk]]) t1' :: ((tabC t t1 t2 t3).tail ++ rest))) ∧ id < h'.n ∧ TokU h' t1' ∧ (∀ x, t1'.owner = some x → t1.owner = some x ∨ h.nt ≤ x) ∧ TokU h' t2 ∧ TokU h' t3 := by
  have xl := srows_len
  have xg := srows_get
  have hob := hT.ob
  have hlt := hT.lt
  refine Call.bodyF b_table_parser_alias rfl rfl ?_
  unfold c_table_parser_alias
  repeat' (first
    | ((with_reducible apply opsF.op rfl); (case hs => (first | exact tHT | exact tHS)))
    | with_reducible (first | apply opsF.nil | apply seqF.nn | apply vcF.seq | apply vcF.region | apply vcF.skip | apply vcF.block | apply vcF.exit | apply vcF.ret | apply vcF.loop | apply seqF.e | apply seqF.r | apply blkF.nn | apply blkF.e | apply blkF.r | apply blkF.o rfl)
    | ((with_reducible apply opsF.call); (case hx => exact tAG))
    | ((with_reducible apply opsF.want); (case hg => exact tEV); (case hb => exact tNB))
    | ((with_reducible apply opsF.skip); (case hg => exact tEV); (case hb => exact tNB))
    | (first | ((with_reducible apply opsF.case); (case hg => exact tEV)) | ((with_reducible apply vcF.cond); (case hx => exact tEV))) <;> ((intro hc; try simp only [Int.reduceLT, Int.reduceLE, Int.reduceEq, Int.reduceNe, Int.cast_ofNat_Int, Int.reduceNeg, decide_true, decide_false, not_true_eq_false, not_false_eq_true, decide_eq_true_eq, decide_eq_false_iff_not, Bool.not_eq_true', Bool.not_eq_false', Bool.not_true, Bool.not_false, Bool.false_eq_true, Bool.true_eq_false, Bool.not_eq_true, Bool.not_eq_false, beq_iff_eq, beq_eq_false_iff_ne, bne_iff_ne, bne_eq_false_iff_eq, ne_eq, Int.not_lt, Int.not_le, ge_iff_le, gt_iff_lt, Decidable.not_not, reduceCtorEq, *] at hc) <;> (try (exfalso; omega)))
    | ((with_reducible apply opsF.und); (case hg => rfl))
    | ((with_reducible apply retF.r); (case hv => exact tRS))
    | ((with_reducible apply retF.nn); (case hv => exact tRS)))
  refine LpF.ind rfl (fun i : Nat => ws.length - i) (fun i σ h' => ∃ (acc : List (List UInt8)) (tok : Tok), i ≤ ws.length ∧ σ 0 = .ptr id 0 ∧ σ 5 = .ptr h.n 0 ∧ σ 10 = .list 1 (srows ws) tkw ∧ σ 11 = .v (.int .i64 (ws.length : Nat)) ∧ σ 12 = .v (.int .i64 (i : Nat)) ∧
    h'.objs h.n = some (.cells [.list 1 (srows acc) tok]) ∧ h.n < h'.n ∧ Ext h h' ∧ TokU h' tok ∧ (∀ x, tok.owner = some x → h.nt ≤ x) ∧ acc.length = i ∧ canonsO ws = (canonsO (ws.drop i)).map (acc ++ ·)) ?_ (i := 0)
    ⟨[], .full, Nat.zero_le _, rfl, rfl, rfl, rfl, rfl, by rw [alloc_at, if_pos rfl]; rfl, by rw [alloc_n]; omega, Ext.alloc _ _, trivial, (fun x hx => by cases hx), rfl, by simp⟩
  rintro i σ h' ⟨acc, tok, hi, h0, h5, h10, h11, h12, hb5, hbl, hE, hTk, hF, hal, hS⟩
  have hob' : h'.objs id = some (.cells (tabC t t1 t2 t3 ++ rest)) := (hE.objs id hlt).trans hob
  rcases Nat.lt_or_ge i ws.length with hlt2 | hge
  · obtain ⟨w, hwi⟩ : ∃ w, ws[i]? = some w := ⟨_, List.getElem?_eq_getElem hlt2⟩
    have hwl := hw w (List.mem_of_getElem? hwi)
    have hca := fun h => canon_p (w0 := w0) w h (by omega)
    have hdw := drop_step hwi
    cases hcn : canonO w with
    | none =>
      rw [hcn] at hca
      have hno : canonsO ws = none := by rw [hS, hdw, canonsO, hcn]; rfl
      have hao : aliasO t ws = none := by rw [aliasO, hno]
      rw [hao]
      simp only [optV] at hca
      repeat' (first
    | ((with_reducible apply opsF.op rfl); (case hs => (first | exact tHT | exact tHS)))
    | with_reducible (first | apply opsF.nil | apply seqF.nn | apply vcF.seq | apply vcF.region | apply vcF.skip | apply vcF.block | apply vcF.exit | apply vcF.ret | apply vcF.loop | apply seqF.e | apply seqF.r | apply blkF.nn | apply blkF.e | apply blkF.r | apply blkF.o rfl)
    | ((with_reducible apply opsF.call); (case hx => exact tAG))
    | ((with_reducible apply opsF.want); (case hg => exact tEV); (case hb => exact tNB))
    | ((with_reducible apply opsF.skip); (case hg => exact tEV); (case hb => exact tNB))
    | (first | ((with_reducible apply opsF.case); (case hg => exact tEV)) | ((with_reducible apply vcF.cond); (case hx => exact tEV))) <;> ((intro hc; try simp only [Int.reduceLT, Int.reduceLE, Int.reduceEq, Int.reduceNe, Int.cast_ofNat_Int, Int.reduceNeg, decide_true, decide_false, not_true_eq_false, not_false_eq_true, decide_eq_true_eq, decide_eq_false_iff_not, Bool.not_eq_true', Bool.not_eq_false', Bool.not_true, Bool.not_false, Bool.false_eq_true, Bool.true_eq_false, Bool.not_eq_true, Bool.not_eq_false, beq_iff_eq, beq_eq_false_iff_ne, bne_iff_ne, bne_eq_false_iff_eq, ne_eq, Int.not_lt, Int.not_le, ge_iff_le, gt_iff_lt, Decidable.not_not, reduceCtorEq, *] at hc) <;> (try (exfalso; omega)))
    | ((with_reducible apply opsF.und); (case hg => rfl))
    | ((with_reducible apply retF.r); (case hv => exact tRS))
    | ((with_reducible apply retF.nn); (case hv => exact tRS))
    | ((refine Call.use (hca _) ?_)))
      all_goals exact ⟨rfl, .of hE, fun t' ht => by cases ht⟩
    | some c =>
      rw [hcn] at hca
      simp only [optV] at hca
      repeat' (first
    | ((with_reducible apply opsF.op rfl); (case hs => (first | exact tHT | exact tHS)))
    | with_reducible (first | apply opsF.nil | apply seqF.nn | apply vcF.seq | apply vcF.region | apply vcF.skip | apply vcF.block | apply vcF.exit | apply vcF.ret | apply vcF.loop | apply seqF.e | apply seqF.r | apply blkF.nn | apply blkF.e | apply blkF.r | apply blkF.o rfl)
    | ((with_reducible apply opsF.call); (case hx => exact tAG))
    | ((with_reducible apply opsF.want); (case hg => exact tEV); (case hb => exact tNB))
    | ((with_reducible apply opsF.skip); (case hg => exact tEV); (case hb => exact tNB))
    | (first | ((with_reducible apply opsF.case); (case hg => exact tEV)) | ((with_reducible apply vcF.cond); (case hx => exact tEV))) <;> ((intro hc; try simp only [Int.reduceLT, Int.reduceLE, Int.reduceEq, Int.reduceNe, Int.cast_ofNat_Int, Int.reduceNeg, decide_true, decide_false, not_true_eq_false, not_false_eq_true, decide_eq_true_eq, decide_eq_false_iff_not, Bool.not_eq_true', Bool.not_eq_false', Bool.not_true, Bool.not_false, Bool.false_eq_true, Bool.true_eq_false, Bool.not_eq_true, Bool.not_eq_false, beq_iff_eq, beq_eq_false_iff_ne, bne_iff_ne, bne_eq_false_iff_eq, ne_eq, Int.not_lt, Int.not_le, ge_iff_le, gt_iff_lt, Decidable.not_not, reduceCtorEq, *] at hc) <;> (try (exfalso; omega)))
    | ((with_reducible apply opsF.und); (case hg => rfl))
    | ((with_reducible apply retF.r); (case hv => exact tRS))
    | ((with_reducible apply retF.nn); (case hv => exact tRS))
    | ((refine Call.use (hca _) ?_); obtain ⟨tok1, h6, hap, hT2, hT3, hT4, hT5, hT6⟩ := hTk.app))
      refine ⟨i + 1, by omega, acc ++ [c], tok1, by omega, h0, h5, h10, h11, rfl, ?_, by rw [set_n, hT5]; exact hbl, ?_, hT2.set, ?_, by simp; omega, ?_⟩
      · rw [set_at, if_pos rfl, srows_app]; rfl
      · exact (Ext.transX hE hT6 (fun _ x => x.elim) hF).set (Nat.le_refl _) _
      · intro x hx
        rcases hT3 x hx with hz | hz
        · exact hF x hz
        · exact Nat.le_trans hE.nt hz
      · rw [hS, hdw, canonsO, hcn]
        cases canonsO (ws.drop (i + 1)) <;> simp
  · have hno : canonsO ws = some acc := by rw [hS, List.drop_eq_nil_of_le hge]; simp [canonsO]
    rcases Nat.lt_or_ge acc.length 2 with hs2 | hs2
    · have hao : aliasO t ws = none := by
        rw [aliasO, hno]
        match acc, hs2 with
        | [], _ => rfl
        | [a], _ => rfl
      rw [hao]
      repeat' (first
    | ((with_reducible apply opsF.op rfl); (case hs => (first | exact tHT | exact tHS)))
    | with_reducible (first | apply opsF.nil | apply seqF.nn | apply vcF.seq | apply vcF.region | apply vcF.skip | apply vcF.block | apply vcF.exit | apply vcF.ret | apply vcF.loop | apply seqF.e | apply seqF.r | apply blkF.nn | apply blkF.e | apply blkF.r | apply blkF.o rfl)
    | ((with_reducible apply opsF.call); (case hx => exact tAG))
    | ((with_reducible apply opsF.want); (case hg => exact tEV); (case hb => exact tNB))
    | ((with_reducible apply opsF.skip); (case hg => exact tEV); (case hb => exact tNB))
    | (first | ((with_reducible apply opsF.case); (case hg => exact tEV)) | ((with_reducible apply vcF.cond); (case hx => exact tEV))) <;> ((intro hc; try simp only [Int.reduceLT, Int.reduceLE, Int.reduceEq, Int.reduceNe, Int.cast_ofNat_Int, Int.reduceNeg, decide_true, decide_false, not_true_eq_false, not_false_eq_true, decide_eq_true_eq, decide_eq_false_iff_not, Bool.not_eq_true', Bool.not_eq_false', Bool.not_true, Bool.not_false, Bool.false_eq_true, Bool.true_eq_false, Bool.not_eq_true, Bool.not_eq_false, beq_iff_eq, beq_eq_false_iff_ne, bne_iff_ne, bne_eq_false_iff_eq, ne_eq, Int.not_lt, Int.not_le, ge_iff_le, gt_iff_lt, Decidable.not_not, reduceCtorEq, *] at hc) <;> (try (exfalso; omega)))
    | ((with_reducible apply opsF.und); (case hg => rfl))
    | ((with_reducible apply retF.r); (case hv => exact tRS))
    | ((with_reducible apply retF.nn); (case hv => exact tRS)))
      all_goals exact ⟨rfl, .of hE, fun t' ht => by cases ht⟩
    · obtain ⟨a, b, r, hacc⟩ : ∃ a b r, acc = a :: b :: r := by
        match acc, hs2 with
        | a :: b :: r, _ => exact ⟨a, b, r, rfl⟩
      have hg0 : acc[0]? = some a := by rw [hacc]; rfl
      have hg1 : acc.drop 1 = b :: r := by rw [hacc]; rfl
      have hcf := confA (w0 := w0) table_parser_alias_1 [.ptr h.n 0] arow (fun x => decide (x.1 = a)) t.1 t1 h' (fun _ _ => rfl) (fun x _ => aliasC_p x a h.n tok h' acc hb5 hbl hg0) (by omega)
      cases hany : t.1.any (fun x => decide (x.1 = a)) with
      | true =>
        rw [hany] at hcf
        have hao : aliasO t ws = none := by rw [aliasO, hno, hacc]; simp only [hany, if_true]
        rw [hao]
        unfold tabC at hob'
        clear hacc hno hS
        repeat' (first
    | ((with_reducible apply opsF.op rfl); (case hs => (first | exact tHT | exact tHS)))
    | with_reducible (first | apply opsF.nil | apply seqF.nn | apply vcF.seq | apply vcF.region | apply vcF.skip | apply vcF.block | apply vcF.exit | apply vcF.ret | apply vcF.loop | apply seqF.e | apply seqF.r | apply blkF.nn | apply blkF.e | apply blkF.r | apply blkF.o rfl)
    | ((with_reducible apply opsF.call); (case hx => exact tAG))
    | ((with_reducible apply opsF.want); (case hg => exact tEV); (case hb => exact tNB))
    | ((with_reducible apply opsF.skip); (case hg => exact tEV); (case hb => exact tNB))
    | (first | ((with_reducible apply opsF.case); (case hg => exact tEV)) | ((with_reducible apply vcF.cond); (case hx => exact tEV))) <;> ((intro hc; try simp only [Int.reduceLT, Int.reduceLE, Int.reduceEq, Int.reduceNe, Int.cast_ofNat_Int, Int.reduceNeg, decide_true, decide_false, not_true_eq_false, not_false_eq_true, decide_eq_true_eq, decide_eq_false_iff_not, Bool.not_eq_true', Bool.not_eq_false', Bool.not_true, Bool.not_false, Bool.false_eq_true, Bool.true_eq_false, Bool.not_eq_true, Bool.not_eq_false, beq_iff_eq, beq_eq_false_iff_ne, bne_iff_ne, bne_eq_false_iff_eq, ne_eq, Int.not_lt, Int.not_le, ge_iff_le, gt_iff_lt, Decidable.not_not, reduceCtorEq, *] at hc) <;> (try (exfalso; omega)))
    | ((with_reducible apply opsF.und); (case hg => rfl))
    | ((with_reducible apply retF.r); (case hv => exact tRS))
    | ((with_reducible apply retF.nn); (case hv => exact tRS))
    | ((refine Call.use hcf ?_)))
        all_goals exact ⟨rfl, .of hE, fun t' ht => by cases ht⟩
      | false =>
        rw [hany] at hcf
        have hao : aliasO t ws = some (t.1 ++ [(a, b :: r)], t.2) := by rw [aliasO, hno, hacc]; simp only [hany, Bool.false_eq_true, if_false]
        rw [hao]
        obtain ⟨tok1, h6, hap, hT2, hT3, hT4, hT5, hT6⟩ := (hT.u1.ext hE).app
        unfold tabC at hob'
        clear hacc hno hS
        repeat' (first
    | ((with_reducible apply opsF.op rfl); (case hs => (first | exact tHT | exact tHS)))
    | with_reducible (first | apply opsF.nil | apply seqF.nn | apply vcF.seq | apply vcF.region | apply vcF.skip | apply vcF.block | apply vcF.exit | apply vcF.ret | apply vcF.loop | apply seqF.e | apply seqF.r | apply blkF.nn | apply blkF.e | apply blkF.r | apply blkF.o rfl)
    | ((with_reducible apply opsF.call); (case hx => exact tAG))
    | ((with_reducible apply opsF.want); (case hg => exact tEV); (case hb => exact tNB))
    | ((with_reducible apply opsF.skip); (case hg => exact tEV); (case hb => exact tNB))
    | (first | ((with_reducible apply opsF.case); (case hg => exact tEV)) | ((with_reducible apply vcF.cond); (case hx => exact tEV))) <;> ((intro hc; try simp only [Int.reduceLT, Int.reduceLE, Int.reduceEq, Int.reduceNe, Int.cast_ofNat_Int, Int.reduceNeg, decide_true, decide_false, not_true_eq_false, not_false_eq_true, decide_eq_true_eq, decide_eq_false_iff_not, Bool.not_eq_true', Bool.not_eq_false', Bool.not_true, Bool.not_false, Bool.false_eq_true, Bool.true_eq_false, Bool.not_eq_true, Bool.not_eq_false, beq_iff_eq, beq_eq_false_iff_ne, bne_iff_ne, bne_eq_false_iff_eq, ne_eq, Int.not_lt, Int.not_le, ge_iff_le, gt_iff_lt, Decidable.not_not, reduceCtorEq, *] at hc) <;> (try (exfalso; omega)))
    | ((with_reducible apply opsF.und); (case hg => rfl))
    | ((with_reducible apply retF.r); (case hv => exact tRS))
    | ((with_reducible apply retF.nn); (case hv => exact tRS))
    | ((refine Call.use hcf ?_)))
        refine ⟨rfl, ?_, fun t' ht => ?_⟩
        · refine ExtX.set (I := fun i => i = id) (i := id) ?_ (.inl rfl) _
          exact (ExtX.of hE).trans (hT6.mono (fun _ x => x.elim) fun x hx => hT.b1 x hx)
        · cases ht
          have hsr : (srows acc).drop 1 = srows (b :: r) := by rw [← hg1]; simp [srows, List.map_drop]
          have hst : ((srows acc).drop 1).take (i - 1) = srows (b :: r) := by
            rw [← hsr]
            exact List.take_of_length_le (by simp [srows_len]; omega)
          refine ⟨a, b :: r, tok, tok1, rfl, ?_, by rw [set_n, hT5]; exact Nat.lt_of_lt_of_le hlt hE.n, hT2.set, ?_, (tokU_keep (hT.u2.ext hE) hT6 hT.d12).set, (tokU_keep (hT.u3.ext hE) hT6 hT.d13).set⟩
          · rw [set_at, if_pos rfl, hst]
            rfl
          · intro x hx
            rcases hT3 x hx with hz | hz
            · exact .inl hz
            · exact .inr (Nat.le_trans hE.nt hz)
theorem alias_call (B : Nat) (id : Nat) (t : TB) (rest : List AV) (t1 t2 t3 : Tok) (ws : List (List UInt8)) (tkw : Tok) (h : AH) (hT : TS B h id t rest t1 t2 t3) (hw : ∀ w ∈ ws, w.length ≤ 1000000) (hl : ws.length ≤ 1000000) (htl : t.1.length ≤ 1000000) :
    Call P w0 table_parser_alias [.ptr id 0, .list 1 (srows ws) tkw] h (MethP B h id (aliasO t ws) rest) := by
  refine (alias_raw B id t rest t1 t2 t3 ws tkw h hT hw hl htl).weak fun v h' hq => ?_
  obtain ⟨hv, hE, hS⟩ := hq
  cases ho : aliasO t ws with
  | none => exact ⟨v, h', .refl _, .refl _, by rw [← ho]; exact hv, hE, fun t' ht => by cases ht⟩
  | some t' =>
    obtain ⟨l0, r, tk, t1', rfl, hob, hlt, hu1, hn1, hu2, hu3⟩ := hS t' ho
    refine ⟨v, h'.set id (.cells (tabC (t.1 ++ [(l0, r)], t.2) t1' t2 t3 ++ rest)), .refl _, ?_, by rw [← ho]; exact hv, ExtX.set (I := fun i => i = id) (i := id) hE (.inl rfl) _, fun t' ht => ?_⟩
    · refine AH.le.cells hob ?_
      exact .cons (arows_le _ _ _ _ _) (.refl _)
    · cases ht
      have hfr : ∀ x, t1'.owner = some x → ∀ tk : Tok, (∀ y, t1.owner = some y → tk.owner ≠ some y) → TokU h tk → tk.owner ≠ some x := by
        intro x hx tk hd hu he
        rcases hn1 x hx with hz | hz
        · exact hd x hz he
        · have := tokU_lt hu he; omega
      refine ⟨t1', t2, t3, by rw [set_at, if_pos rfl], hlt, Nat.le_trans hT.nt hE.nt, hu1.set, hu2.set, hu3.set, fun x hx => hfr x hx t2 hT.d12 hT.u2, fun x hx => hfr x hx t3 hT.d13 hT.u3, hT.d23, fun x hx => ?_, hT.b2, hT.b3⟩
      rcases hn1 x hx with hz | hz
      · exact hT.b1 x hz
      · have := hT.nt; omega
end Go.Abs.F
namespace Go.Abs.F
open Go Go.Abs
set_option maxRecDepth 10000
set_option maxHeartbeats 20000000
set_option linter.unusedSimpArgs false
set_option linter.unusedVariables false
variable {w0 : World}
theorem hopC_p (a : List UInt8 × List UInt8) (d : List UInt8) (id : Nat) (h : AH) (ho : h.objs id = some (.cells [.v (.string (bs d))])) (hlt : id < h.n) :
    Call P w0 table_parser_hop_1 [.agg (hrow a), .ptr id 0] h (fun v h' => v = .v (.bool (decide (a.1 = d))) ∧ h' = h) := by
  refine Call.pure (.v _) ?_
  refine Call.bodyF b_table_parser_hop_1 rfl rfl ?_
  unfold c_table_parser_hop_1 hrow
  repeat' (first
    | ((with_reducible apply opsF.op rfl); (case hs => (first | exact tHT | exact tHS)))
    | with_reducible (first | apply opsF.nil | apply seqF.nn | apply vcF.seq | apply vcF.region | apply vcF.skip | apply vcF.ret | apply seqF.r)
    | ((with_reducible apply opsF.call); (case hx => exact tAG))
    | (first | ((with_reducible apply vcF.cond); (case hx => exact tEV))) <;> ((intro hc; try simp only [Int.reduceLT, Int.reduceLE, Int.reduceEq, Int.reduceNe, Int.cast_ofNat_Int, Int.reduceNeg, decide_true, decide_false, not_true_eq_false, not_false_eq_true, decide_eq_true_eq, decide_eq_false_iff_not, Bool.not_eq_true', Bool.not_eq_false', Bool.not_true, Bool.not_false, Bool.false_eq_true, Bool.true_eq_false, Bool.not_eq_true, Bool.not_eq_false, beq_iff_eq, beq_eq_false_iff_ne, bne_iff_ne, bne_eq_false_iff_eq, ne_eq, Int.not_lt, Int.not_le, ge_iff_le, gt_iff_lt, Decidable.not_not, reduceCtorEq, *] at hc) <;> (try (exfalso; omega)))
    | ((with_reducible apply retF.r); (case hv => exact tRS))
    | ((with_reducible apply retF.nn); (case hv => exact tRS)))
  all_goals exact ⟨rfl, Ext.alloc _ _⟩
theorem methP_none {B : Nat} {h h' : AH} {id : Nat} {rest : List AV} (hE : ExtI B id h h') : MethP B h id none rest (.v (.bool false)) h' := ⟨rfl, hE, fun t' ht => by cases ht⟩
/-- The second list has grown. -/
theorem TS.up2 {B : Nat} {h h1 h6 : AH} {id : Nat} {t : TB} {rest : List AV} {t1 t2 t3 tok1 : Tok} (hT : TS B h id t rest t1 t2 t3) (hE : Ext h h1) (hT2 : TokU h6 tok1) (hT3 : TokN h1 t2 tok1) (hT5 : h6.n = h1.n) (hT6 : ExtX (fun _ => False) (fun x => t2.owner = some x) h1 h6) (x : List UInt8 × List UInt8) :
    MethP B h id (some (t.1, t.2.1 ++ [x], t.2.2)) rest (.v (.bool true)) (h6.set id (.cells (tabC (t.1, t.2.1 ++ [x], t.2.2) t1 tok1 t3 ++ rest))) := by
  have hfr : ∀ x, tok1.owner = some x → ∀ tk : Tok, (∀ y, t2.owner = some y → tk.owner ≠ some y) → TokU h tk → tk.owner ≠ some x := by
    intro x hx tk hd hu he
    rcases hT3 x hx with hz | hz
    · exact hd x hz he
    · have := tokU_lt hu he; have := hE.nt; omega
  have d21 : ∀ x, t2.owner = some x → t1.owner ≠ some x := fun x hx he => hT.d12 x he hx
  refine ⟨rfl, ExtX.set (I := fun i => i = id) (i := id) ((ExtX.of hE).trans (hT6.mono (fun _ x => x.elim) fun x hx => hT.b2 x hx)) (.inl rfl) _, fun t' ht => ?_⟩
  cases ht
  refine ⟨t1, tok1, t3, by rw [set_at, if_pos rfl], by rw [set_n, hT5]; exact Nat.lt_of_lt_of_le hT.lt hE.n, Nat.le_trans hT.nt (Nat.le_trans hE.nt hT6.nt), (tokU_keep (hT.u1.ext hE) hT6 d21).set, hT2.set, (tokU_keep (hT.u3.ext hE) hT6 hT.d23).set,
    fun x hx he => hfr x he t1 d21 hT.u1 hx, hT.d13, fun x hx => hfr x hx t3 hT.d23 hT.u3, hT.b1, fun x hx => ?_, hT.b3⟩
  rcases hT3 x hx with hz | hz
  · exact hT.b2 x hz
  · have := hT.nt; have := hE.nt; omega
theorem hop_call (B : Nat) (id : Nat) (t : TB) (rest : List AV) (t1 t2 t3 : Tok) (ws : List (List UInt8)) (tkw : Tok) (h : AH) (hT : TS B h id t rest t1 t2 t3) (hw : ∀ w ∈ ws, w.length ≤ 1000000) (hl : ws.length ≤ 1000000) (htl : t.2.1.length ≤ 1000000) :
    Call P w0 table_parser_hop [.ptr id 0, .list 1 (srows ws) tkw] h (MethP B h id (hopO t ws) rest) := by
  have xl := srows_len
  have xg := srows_get
  have hob := hT.ob
  have hlt := hT.lt
  refine Call.bodyF b_table_parser_hop rfl rfl ?_
  unfold c_table_parser_hop
  by_cases hl2 : ws.length = 2
  · obtain ⟨a, b, rfl⟩ : ∃ a b, ws = [a, b] := by
      match ws, hl2 with
      | [a, b], _ => exact ⟨a, b, rfl⟩
    have h0 : ([a, b] : List (List UInt8))[0]? = some a := rfl
    have h1 : ([a, b] : List (List UInt8))[1]? = some b := rfl
    have hal := hw a (by simp)
    have hbl := hw b (by simp)
    have hda := fun h => doma_p (w0 := w0) a h (by omega)
    have hdb := fun h => doma_p (w0 := w0) b h (by omega)
    rw [hopO]
    obtain ⟨ws, hws⟩ : ∃ ws, ws = [a, b] := ⟨_, rfl⟩
    rw [← hws] at h0 h1 hl2 ⊢
    clear hws hw hl
    have EX : ∀ o1 o2 : AObj, Ext h ((h.alloc o1).set h.n o2) := fun o1 o2 => (Ext.alloc _ _).set (Nat.le_refl _) _
    have EX2 : ∀ o1 o2 o3 : AObj, Ext h (((h.alloc o1).set h.n o2).set h.n o3) := fun o1 o2 o3 => (EX o1 o2).set (Nat.le_refl _) _
    obtain ⟨q, hq⟩ : ∃ q, (t.2.1.any fun x => decide (x.1 = hopD a)) = q := ⟨_, rfl⟩
    have hcf : ∀ hh : AH, hh.objs h.n = some (.cells [.v (.string (bs (hopD a)))]) → h.n < hh.n → Call P w0 slices_ContainsFunc_api_Hop_api_Hop [.list 2 (t.2.1.map hrow) t2, .func (.func table_parser_hop_1) [] [.ptr h.n 0]] hh (fun v h' => v = .v (.bool q) ∧ h' = hh) := fun hh ho hl => by
      rw [← hq]
      exact confH table_parser_hop_1 [.ptr h.n 0] hrow (fun x => decide (x.1 = hopD a)) t.2.1 t2 hh (fun _ _ => rfl) (fun x _ => hopC_p x (hopD a) h.n hh ho hl) (by omega)
    rw [hq]
    clear hq
    unfold tabC at hob
    rcases Classical.em (a = [42]) with ha | ha
    · have hD : hopD a = [42] := if_pos ha
      rw [hD] at hcf ⊢
      have e1 : decide (a = [42]) = true := decide_eq_true ha
      rw [e1]
      have hat : (a = [42]) = True := eq_true ha
      clear ha e1 hD
      cases hB : domainS b
      · rw [hB] at hdb
        repeat' (first
    | ((with_reducible apply opsF.op rfl); (case hs => (first | exact tHT | exact tHS)))
    | with_reducible (first | apply opsF.nil | apply seqF.nn | apply vcF.seq | apply vcF.region | apply vcF.skip | apply vcF.ret | apply seqF.r)
    | ((with_reducible apply opsF.call); (case hx => exact tAG))
    | ((with_reducible apply opsF.want); (case hg => exact tEV); (case hb => exact tNB))
    | ((with_reducible apply opsF.skip); (case hg => exact tEV); (case hb => exact tNB))
    | (first | ((with_reducible apply opsF.case); (case hg => exact tEV)) | ((with_reducible apply vcF.cond); (case hx => exact tEV))) <;> ((intro hc; try simp only [Int.reduceLT, Int.reduceLE, Int.reduceEq, Int.reduceNe, Int.cast_ofNat_Int, Int.reduceNeg, decide_true, decide_false, not_true_eq_false, not_false_eq_true, decide_eq_true_eq, decide_eq_false_iff_not, Bool.not_eq_true', Bool.not_eq_false', Bool.not_true, Bool.not_false, Bool.false_eq_true, Bool.true_eq_false, Bool.not_eq_true, Bool.not_eq_false, beq_iff_eq, beq_eq_false_iff_ne, bne_iff_ne, bne_eq_false_iff_eq, ne_eq, Int.not_lt, Int.not_le, ge_iff_le, gt_iff_lt, Decidable.not_not, reduceCtorEq, *] at hc) <;> (try (exfalso; omega)))
    | ((with_reducible apply opsF.und); (case hg => rfl))
    | ((with_reducible apply retF.r); (case hv => exact tRS))
    | ((with_reducible apply retF.nn); (case hv => exact tRS))
    | ((refine Call.use (hda _) ?_))
    | ((refine Call.use (hdb _) ?_)))
        all_goals exact methP_none (.of (EX2 _ _ _))
      · rw [hB] at hdb
        cases q
        · simp only [Bool.true_or, Bool.false_or, Bool.true_and, Bool.and_true, Bool.not_false, if_true]
          repeat' (first
    | ((with_reducible apply opsF.op rfl); (case hs => (first | exact tHT | exact tHS)))
    | with_reducible (first | apply opsF.nil | apply seqF.nn | apply vcF.seq | apply vcF.region | apply vcF.skip | apply vcF.ret | apply seqF.r)
    | ((with_reducible apply opsF.call); (case hx => exact tAG))
    | ((with_reducible apply opsF.want); (case hg => exact tEV); (case hb => exact tNB))
    | ((with_reducible apply opsF.skip); (case hg => exact tEV); (case hb => exact tNB))
    | (first | ((with_reducible apply opsF.case); (case hg => exact tEV)) | ((with_reducible apply vcF.cond); (case hx => exact tEV))) <;> ((intro hc; try simp only [Int.reduceLT, Int.reduceLE, Int.reduceEq, Int.reduceNe, Int.cast_ofNat_Int, Int.reduceNeg, decide_true, decide_false, not_true_eq_false, not_false_eq_true, decide_eq_true_eq, decide_eq_false_iff_not, Bool.not_eq_true', Bool.not_eq_false', Bool.not_true, Bool.not_false, Bool.false_eq_true, Bool.true_eq_false, Bool.not_eq_true, Bool.not_eq_false, beq_iff_eq, beq_eq_false_iff_ne, bne_iff_ne, bne_eq_false_iff_eq, ne_eq, Int.not_lt, Int.not_le, ge_iff_le, gt_iff_lt, Decidable.not_not, reduceCtorEq, *] at hc) <;> (try (exfalso; omega)))
    | ((with_reducible apply opsF.und); (case hg => rfl))
    | ((with_reducible apply retF.r); (case hv => exact tRS))
    | ((with_reducible apply retF.nn); (case hv => exact tRS))
    | ((refine Call.use (hda _) ?_))
    | ((refine Call.use (hdb _) ?_))
    | ((refine Call.use (hcf _ (by exact tHX) (by simp only [alloc_n, set_n]; omega)) ?_); obtain ⟨tok1, h6, hap, hT2, hT3, hT4, hT5, hT6⟩ := (hT.u2.ext (EX2 (.cells [.v (.string (bs []))]) (.cells [.v (.string (bs (lowerS a)))]) (.cells [.v (.string (bs [42]))]))).app))
          have k := TS.up2 hT (EX2 _ _ _) hT2 hT3 hT5 hT6 ([42], lowerS b)
          simpa only [tabC, List.map_append, List.map_cons, List.map_nil, hrow, List.cons_append, List.nil_append, List.set_cons_succ, List.set_cons_zero] using k
        · repeat' (first
    | ((with_reducible apply opsF.op rfl); (case hs => (first | exact tHT | exact tHS)))
    | with_reducible (first | apply opsF.nil | apply seqF.nn | apply vcF.seq | apply vcF.region | apply vcF.skip | apply vcF.ret | apply seqF.r)
    | ((with_reducible apply opsF.call); (case hx => exact tAG))
    | ((with_reducible apply opsF.want); (case hg => exact tEV); (case hb => exact tNB))
    | ((with_reducible apply opsF.skip); (case hg => exact tEV); (case hb => exact tNB))
    | (first | ((with_reducible apply opsF.case); (case hg => exact tEV)) | ((with_reducible apply vcF.cond); (case hx => exact tEV))) <;> ((intro hc; try simp only [Int.reduceLT, Int.reduceLE, Int.reduceEq, Int.reduceNe, Int.cast_ofNat_Int, Int.reduceNeg, decide_true, decide_false, not_true_eq_false, not_false_eq_true, decide_eq_true_eq, decide_eq_false_iff_not, Bool.not_eq_true', Bool.not_eq_false', Bool.not_true, Bool.not_false, Bool.false_eq_true, Bool.true_eq_false, Bool.not_eq_true, Bool.not_eq_false, beq_iff_eq, beq_eq_false_iff_ne, bne_iff_ne, bne_eq_false_iff_eq, ne_eq, Int.not_lt, Int.not_le, ge_iff_le, gt_iff_lt, Decidable.not_not, reduceCtorEq, *] at hc) <;> (try (exfalso; omega)))
    | ((with_reducible apply opsF.und); (case hg => rfl))
    | ((with_reducible apply retF.r); (case hv => exact tRS))
    | ((with_reducible apply retF.nn); (case hv => exact tRS))
    | ((refine Call.use (hda _) ?_))
    | ((refine Call.use (hdb _) ?_))
    | ((refine Call.use (hcf _ (by exact tHX) (by simp only [alloc_n, set_n]; omega)) ?_)))
          all_goals exact methP_none (.of (EX2 _ _ _))
    · have hD : hopD a = lowerS a := if_neg ha
      rw [hD] at hcf ⊢
      have e1 : decide (a = [42]) = false := decide_eq_false ha
      rw [e1]
      clear e1 hD
      cases hA : domainS a
      · rw [hA] at hda
        repeat' (first
    | ((with_reducible apply opsF.op rfl); (case hs => (first | exact tHT | exact tHS)))
    | with_reducible (first | apply opsF.nil | apply seqF.nn | apply vcF.seq | apply vcF.region | apply vcF.skip | apply vcF.ret | apply seqF.r)
    | ((with_reducible apply opsF.call); (case hx => exact tAG))
    | ((with_reducible apply opsF.want); (case hg => exact tEV); (case hb => exact tNB))
    | ((with_reducible apply opsF.skip); (case hg => exact tEV); (case hb => exact tNB))
    | (first | ((with_reducible apply opsF.case); (case hg => exact tEV)) | ((with_reducible apply vcF.cond); (case hx => exact tEV))) <;> ((intro hc; try simp only [Int.reduceLT, Int.reduceLE, Int.reduceEq, Int.reduceNe, Int.cast_ofNat_Int, Int.reduceNeg, decide_true, decide_false, not_true_eq_false, not_false_eq_true, decide_eq_true_eq, decide_eq_false_iff_not, Bool.not_eq_true', Bool.not_eq_false', Bool.not_true, Bool.not_false, Bool.false_eq_true, Bool.true_eq_false, Bool.not_eq_true, Bool.not_eq_false, beq_iff_eq, beq_eq_false_iff_ne, bne_iff_ne, bne_eq_false_iff_eq, ne_eq, Int.not_lt, Int.not_le, ge_iff_le, gt_iff_lt, Decidable.not_not, reduceCtorEq, *] at hc) <;> (try (exfalso; omega)))
    | ((with_reducible apply opsF.und); (case hg => rfl))
    | ((with_reducible apply retF.r); (case hv => exact tRS))
    | ((with_reducible apply retF.nn); (case hv => exact tRS))
    | ((refine Call.use (hda _) ?_))
    | ((refine Call.use (hdb _) ?_)))
        all_goals exact methP_none (.of (EX _ _))
      rw [hA] at hda
      cases hB : domainS b
      · rw [hB] at hdb
        repeat' (first
    | ((with_reducible apply opsF.op rfl); (case hs => (first | exact tHT | exact tHS)))
    | with_reducible (first | apply opsF.nil | apply seqF.nn | apply vcF.seq | apply vcF.region | apply vcF.skip | apply vcF.ret | apply seqF.r)
    | ((with_reducible apply opsF.call); (case hx => exact tAG))
    | ((with_reducible apply opsF.want); (case hg => exact tEV); (case hb => exact tNB))
    | ((with_reducible apply opsF.skip); (case hg => exact tEV); (case hb => exact tNB))
    | (first | ((with_reducible apply opsF.case); (case hg => exact tEV)) | ((with_reducible apply vcF.cond); (case hx => exact tEV))) <;> ((intro hc; try simp only [Int.reduceLT, Int.reduceLE, Int.reduceEq, Int.reduceNe, Int.cast_ofNat_Int, Int.reduceNeg, decide_true, decide_false, not_true_eq_false, not_false_eq_true, decide_eq_true_eq, decide_eq_false_iff_not, Bool.not_eq_true', Bool.not_eq_false', Bool.not_true, Bool.not_false, Bool.false_eq_true, Bool.true_eq_false, Bool.not_eq_true, Bool.not_eq_false, beq_iff_eq, beq_eq_false_iff_ne, bne_iff_ne, bne_eq_false_iff_eq, ne_eq, Int.not_lt, Int.not_le, ge_iff_le, gt_iff_lt, Decidable.not_not, reduceCtorEq, *] at hc) <;> (try (exfalso; omega)))
    | ((with_reducible apply opsF.und); (case hg => rfl))
    | ((with_reducible apply retF.r); (case hv => exact tRS))
    | ((with_reducible apply retF.nn); (case hv => exact tRS))
    | ((refine Call.use (hda _) ?_))
    | ((refine Call.use (hdb _) ?_)))
        all_goals exact methP_none (.of (EX _ _))
      · rw [hB] at hdb
        cases q
        · simp only [Bool.true_or, Bool.false_or, Bool.true_and, Bool.and_true, Bool.not_false, if_true]
          repeat' (first
    | ((with_reducible apply opsF.op rfl); (case hs => (first | exact tHT | exact tHS)))
    | with_reducible (first | apply opsF.nil | apply seqF.nn | apply vcF.seq | apply vcF.region | apply vcF.skip | apply vcF.ret | apply seqF.r)
    | ((with_reducible apply opsF.call); (case hx => exact tAG))
    | ((with_reducible apply opsF.want); (case hg => exact tEV); (case hb => exact tNB))
    | ((with_reducible apply opsF.skip); (case hg => exact tEV); (case hb => exact tNB))
    | (first | ((with_reducible apply opsF.case); (case hg => exact tEV)) | ((with_reducible apply vcF.cond); (case hx => exact tEV))) <;> ((intro hc; try simp only [Int.reduceLT, Int.reduceLE, Int.reduceEq, Int.reduceNe, Int.cast_ofNat_Int, Int.reduceNeg, decide_true, decide_false, not_true_eq_false, not_false_eq_true, decide_eq_true_eq, decide_eq_false_iff_not, Bool.not_eq_true', Bool.not_eq_false', Bool.not_true, Bool.not_false, Bool.false_eq_true, Bool.true_eq_false, Bool.not_eq_true, Bool.not_eq_false, beq_iff_eq, beq_eq_false_iff_ne, bne_iff_ne, bne_eq_false_iff_eq, ne_eq, Int.not_lt, Int.not_le, ge_iff_le, gt_iff_lt, Decidable.not_not, reduceCtorEq, *] at hc) <;> (try (exfalso; omega)))
    | ((with_reducible apply opsF.und); (case hg => rfl))
    | ((with_reducible apply retF.r); (case hv => exact tRS))
    | ((with_reducible apply retF.nn); (case hv => exact tRS))
    | ((refine Call.use (hda _) ?_))
    | ((refine Call.use (hdb _) ?_))
    | ((refine Call.use (hcf _ (by exact tHX) (by simp only [alloc_n, set_n]; omega)) ?_); obtain ⟨tok1, h6, hap, hT2, hT3, hT4, hT5, hT6⟩ := (hT.u2.ext (EX (.cells [.v (.string (bs []))]) (.cells [.v (.string (bs (lowerS a)))]))).app))
          have k := TS.up2 hT (EX _ _) hT2 hT3 hT5 hT6 (lowerS a, lowerS b)
          simpa only [tabC, List.map_append, List.map_cons, List.map_nil, hrow, List.cons_append, List.nil_append, List.set_cons_succ, List.set_cons_zero] using k
        · repeat' (first
    | ((with_reducible apply opsF.op rfl); (case hs => (first | exact tHT | exact tHS)))
    | with_reducible (first | apply opsF.nil | apply seqF.nn | apply vcF.seq | apply vcF.region | apply vcF.skip | apply vcF.ret | apply seqF.r)
    | ((with_reducible apply opsF.call); (case hx => exact tAG))
    | ((with_reducible apply opsF.want); (case hg => exact tEV); (case hb => exact tNB))
    | ((with_reducible apply opsF.skip); (case hg => exact tEV); (case hb => exact tNB))
    | (first | ((with_reducible apply opsF.case); (case hg => exact tEV)) | ((with_reducible apply vcF.cond); (case hx => exact tEV))) <;> ((intro hc; try simp only [Int.reduceLT, Int.reduceLE, Int.reduceEq, Int.reduceNe, Int.cast_ofNat_Int, Int.reduceNeg, decide_true, decide_false, not_true_eq_false, not_false_eq_true, decide_eq_true_eq, decide_eq_false_iff_not, Bool.not_eq_true', Bool.not_eq_false', Bool.not_true, Bool.not_false, Bool.false_eq_true, Bool.true_eq_false, Bool.not_eq_true, Bool.not_eq_false, beq_iff_eq, beq_eq_false_iff_ne, bne_iff_ne, bne_eq_false_iff_eq, ne_eq, Int.not_lt, Int.not_le, ge_iff_le, gt_iff_lt, Decidable.not_not, reduceCtorEq, *] at hc) <;> (try (exfalso; omega)))
    | ((with_reducible apply opsF.und); (case hg => rfl))
    | ((with_reducible apply retF.r); (case hv => exact tRS))
    | ((with_reducible apply retF.nn); (case hv => exact tRS))
    | ((refine Call.use (hda _) ?_))
    | ((refine Call.use (hdb _) ?_))
    | ((refine Call.use (hcf _ (by exact tHX) (by simp only [alloc_n, set_n]; omega)) ?_)))
          all_goals exact methP_none (.of (EX _ _))
  · have hno : hopO t ws = none := by
      unfold hopO
      split
      · simp at hl2
      · rfl
    rw [hno]
    have hl2' : ¬ (ws.length : Int) = 2 := by omega
    repeat' (first
    | ((with_reducible apply opsF.op rfl); (case hs => (first | exact tHT | exact tHS)))
    | with_reducible (first | apply opsF.nil | apply seqF.nn | apply vcF.seq | apply vcF.region | apply vcF.skip | apply vcF.ret | apply seqF.r)
    | ((with_reducible apply opsF.call); (case hx => exact tAG))
    | ((with_reducible apply opsF.want); (case hg => exact tEV); (case hb => exact tNB))
    | ((with_reducible apply opsF.skip); (case hg => exact tEV); (case hb => exact tNB))
    | (first | ((with_reducible apply opsF.case); (case hg => exact tEV)) | ((with_reducible apply vcF.cond); (case hx => exact tEV))) <;> ((intro hc; try simp only [Int.reduceLT, Int.reduceLE, Int.reduceEq, Int.reduceNe, Int.cast_ofNat_Int, Int.reduceNeg, decide_true, decide_false, not_true_eq_false, not_false_eq_true, decide_eq_true_eq, decide_eq_false_iff_not, Bool.not_eq_true', Bool.not_eq_false', Bool.not_true, Bool.not_false, Bool.false_eq_true, Bool.true_eq_false, Bool.not_eq_true, Bool.not_eq_false, beq_iff_eq, beq_eq_false_iff_ne, bne_iff_ne, bne_eq_false_iff_eq, ne_eq, Int.not_lt, Int.not_le, ge_iff_le, gt_iff_lt, Decidable.not_not, reduceCtorEq, *] at hc) <;> (try (exfalso; omega)))
    | ((with_reducible apply opsF.und); (case hg => rfl))
    | ((with_reducible apply retF.r); (case hv => exact tRS))
    | ((with_reducible apply retF.nn); (case hv => exact tRS)))
    all_goals exact methP_none (.of (.refl _))
/-- The third list has grown. -/
theorem TS.up3 {B : Nat} {h h1 h6 : AH} {id : Nat} {t : TB} {rest : List AV} {t1 t2 t3 tok1 : Tok} (hT : TS B h id t rest t1 t2 t3) (hE : Ext h h1) (hT2 : TokU h6 tok1) (hT3 : TokN h1 t3 tok1) (hT5 : h6.n = h1.n) (hT6 : ExtX (fun _ => False) (fun x => t3.owner = some x) h1 h6) (x : Bool × List UInt8) :
    MethP B h id (some (t.1, t.2.1, t.2.2.1 ++ [x], t.2.2.2)) rest (.v (.bool true)) (h6.set id (.cells (tabC (t.1, t.2.1, t.2.2.1 ++ [x], t.2.2.2) t1 t2 tok1 ++ rest))) := by
  have d31 : ∀ x, t3.owner = some x → t1.owner ≠ some x := fun x hx he => hT.d13 x he hx
  have d32 : ∀ x, t3.owner = some x → t2.owner ≠ some x := fun x hx he => hT.d23 x he hx
  have hfr : ∀ x, tok1.owner = some x → ∀ tk : Tok, (∀ y, t3.owner = some y → tk.owner ≠ some y) → TokU h tk → tk.owner ≠ some x := by
    intro x hx tk hd hu he
    rcases hT3 x hx with hz | hz
    · exact hd x hz he
    · have := tokU_lt hu he; have := hE.nt; omega
  refine ⟨rfl, ExtX.set (I := fun i => i = id) (i := id) ((ExtX.of hE).trans (hT6.mono (fun _ x => x.elim) fun x hx => hT.b3 x hx)) (.inl rfl) _, fun t' ht => ?_⟩
  cases ht
  refine ⟨t1, t2, tok1, by rw [set_at, if_pos rfl], by rw [set_n, hT5]; exact Nat.lt_of_lt_of_le hT.lt hE.n, Nat.le_trans hT.nt (Nat.le_trans hE.nt hT6.nt), (tokU_keep (hT.u1.ext hE) hT6 d31).set, (tokU_keep (hT.u2.ext hE) hT6 d32).set, hT2.set,
    hT.d12, fun x hx he => hfr x he t1 d31 hT.u1 hx, fun x hx he => hfr x he t2 d32 hT.u2 hx, hT.b1, hT.b2, fun x hx => ?_⟩
  rcases hT3 x hx with hz | hz
  · exact hT.b3 x hz
  · have := hT.nt; have := hE.nt; omega
theorem contains_call (s : List UInt8) (c : UInt8) (h : AH) : Call P w0 strings_Contains [.v (.string (bs s)), .v (.string (bs [c]))] h (fun v h' => v = .v (.bool (s.contains c)) ∧ h' = h) := by
  have hi : decide (0 ≤ Lib.indexByte s c) = s.contains c := by
    rcases cutB_cases c s with ⟨g1, g2⟩ | ⟨a, r, rfl, g2, g3⟩
    · rw [idx_miss g1]
      have : s.contains c = false := by simpa using g1
      rw [this]; rfl
    · rw [idx_hit g2]
      have : (a ++ c :: r).contains c = true := by simp
      rw [this]
      exact decide_eq_true (by omega)
  refine Call.bodyF b_strings_Contains rfl rfl ?_
  unfold c_strings_Contains
  repeat' (first
    | ((with_reducible apply opsF.op rfl); (case hs => (first | exact tHT | exact tHS)))
    | with_reducible (first | apply opsF.nil | apply seqF.nn | apply vcF.seq | apply vcF.region | apply vcF.skip | apply vcF.ret | apply seqF.r)
    | ((with_reducible apply opsF.call); (case hx => exact tAG))
    | (first | ((with_reducible apply vcF.cond); (case hx => exact tEV))) <;> ((intro hc; try simp only [Int.reduceLT, Int.reduceLE, Int.reduceEq, Int.reduceNe, Int.cast_ofNat_Int, Int.reduceNeg, decide_true, decide_false, not_true_eq_false, not_false_eq_true, decide_eq_true_eq, decide_eq_false_iff_not, Bool.not_eq_true', Bool.not_eq_false', Bool.not_true, Bool.not_false, Bool.false_eq_true, Bool.true_eq_false, Bool.not_eq_true, Bool.not_eq_false, beq_iff_eq, beq_eq_false_iff_ne, bne_iff_ne, bne_eq_false_iff_eq, ne_eq, Int.not_lt, Int.not_le, ge_iff_le, gt_iff_lt, Decidable.not_not, reduceCtorEq, *] at hc) <;> (try (exfalso; omega)))
    | ((with_reducible apply retF.r); (case hv => exact tRS))
    | ((with_reducible apply retF.nn); (case hv => exact tRS))
    | ((refine Call.use (idx_call s c _) ?_)))
  exact ⟨by rw [← hi], rfl⟩
theorem ban_call (B : Nat) (id : Nat) (t : TB) (rest : List AV) (t1 t2 t3 : Tok) (ws : List (List UInt8)) (tkw : Tok) (h : AH) (hT : TS B h id t rest t1 t2 t3) (hw : ∀ w ∈ ws, w.length ≤ 1000000) (hl : ws.length ≤ 1000000) (htl : t.2.2.1.length ≤ 1000000) :
    Call P w0 table_parser_ban [.ptr id 0, .list 1 (srows ws) tkw] h (MethP B h id (banO t ws) rest) := by
  have xl := srows_len
  have xg := srows_get
  have hob := hT.ob
  have hlt := hT.lt
  refine Call.bodyF b_table_parser_ban rfl rfl ?_
  unfold c_table_parser_ban
  by_cases hl2 : ws.length = 2
  · obtain ⟨a, b, rfl⟩ : ∃ a b, ws = [a, b] := by
      match ws, hl2 with
      | [a, b], _ => exact ⟨a, b, rfl⟩
    have h0 : ([a, b] : List (List UInt8))[0]? = some a := rfl
    have h1 : ([a, b] : List (List UInt8))[1]? = some b := rfl
    have hal := hw a (by simp)
    have hbl := hw b (by simp)
    have hdb := fun h => doma_p (w0 := w0) b h (by omega)
    have hcb := fun h => canon_p (w0 := w0) b h (by omega)
    have hco := fun h => contains_call (w0 := w0) b 64 h
    rw [banO]
    obtain ⟨ws, hws⟩ : ∃ ws, ws = [a, b] := ⟨_, rfl⟩
    rw [← hws] at h0 h1 hl2 ⊢
    clear hws hw hl
    unfold tabC at hob
    obtain ⟨tok1, h6, hap, hT2, hT3, hT4, hT5, hT6⟩ := hT.u3.app
    have hX : ∀ cs, ExtI B id h (h6.set id cs) := fun cs => ExtX.set (I := fun i => i = id) (i := id) ((hT6.mono (fun _ x => x.elim) fun x hx => hT.b3 x hx)) (.inl rfl) _
    by_cases ha : a = [102, 114, 111, 109] ∨ a = [116, 111]
    · rw [if_pos ha]
      rcases Classical.em (a = [102, 114, 111, 109]) with ha1 | ha1
      · rw [decide_eq_true ha1]
        have ha2 : (a = [102, 114, 111, 109]) = True := eq_true ha1
        clear ha ha1
        cases hk : b.contains 64
        · rw [hk] at hco
          have hbn : banN b = if domainS b then some (lowerS b) else none := by rw [banN, hk]; rfl
          rw [hbn]
          clear hbn hcb
          cases hd : domainS b
          · rw [hd] at hdb
            repeat' (first
    | ((with_reducible apply opsF.op rfl); (case hs => (first | exact tHT | exact tHS)))
    | with_reducible (first | apply opsF.nil | apply seqF.nn | apply vcF.seq | apply vcF.region | apply vcF.skip | apply vcF.ret | apply seqF.r)
    | ((with_reducible apply opsF.call); (case hx => exact tAG))
    | ((with_reducible apply opsF.want); (case hg => exact tEV); (case hb => exact tNB))
    | ((with_reducible apply opsF.skip); (case hg => exact tEV); (case hb => exact tNB))
    | (first | ((with_reducible apply opsF.case); (case hg => exact tEV)) | ((with_reducible apply vcF.cond); (case hx => exact tEV))) <;> ((intro hc; try simp only [Int.reduceLT, Int.reduceLE, Int.reduceEq, Int.reduceNe, Int.cast_ofNat_Int, Int.reduceNeg, decide_true, decide_false, not_true_eq_false, not_false_eq_true, decide_eq_true_eq, decide_eq_false_iff_not, Bool.not_eq_true', Bool.not_eq_false', Bool.not_true, Bool.not_false, Bool.false_eq_true, Bool.true_eq_false, Bool.not_eq_true, Bool.not_eq_false, beq_iff_eq, beq_eq_false_iff_ne, bne_iff_ne, bne_eq_false_iff_eq, ne_eq, Int.not_lt, Int.not_le, ge_iff_le, gt_iff_lt, Decidable.not_not, reduceCtorEq, *] at hc) <;> (try (exfalso; omega)))
    | ((with_reducible apply opsF.und); (case hg => rfl))
    | ((with_reducible apply retF.r); (case hv => exact tRS))
    | ((with_reducible apply retF.nn); (case hv => exact tRS))
    | ((refine Call.use (hdb _) ?_))
    | ((refine Call.use (hco _) ?_))
    | ((refine Call.use (hcb _) ?_)))
            all_goals exact methP_none (hX _)
          · rw [hd] at hdb
            repeat' (first
    | ((with_reducible apply opsF.op rfl); (case hs => (first | exact tHT | exact tHS)))
    | with_reducible (first | apply opsF.nil | apply seqF.nn | apply vcF.seq | apply vcF.region | apply vcF.skip | apply vcF.ret | apply seqF.r)
    | ((with_reducible apply opsF.call); (case hx => exact tAG))
    | ((with_reducible apply opsF.want); (case hg => exact tEV); (case hb => exact tNB))
    | ((with_reducible apply opsF.skip); (case hg => exact tEV); (case hb => exact tNB))
    | (first | ((with_reducible apply opsF.case); (case hg => exact tEV)) | ((with_reducible apply vcF.cond); (case hx => exact tEV))) <;> ((intro hc; try simp only [Int.reduceLT, Int.reduceLE, Int.reduceEq, Int.reduceNe, Int.cast_ofNat_Int, Int.reduceNeg, decide_true, decide_false, not_true_eq_false, not_false_eq_true, decide_eq_true_eq, decide_eq_false_iff_not, Bool.not_eq_true', Bool.not_eq_false', Bool.not_true, Bool.not_false, Bool.false_eq_true, Bool.true_eq_false, Bool.not_eq_true, Bool.not_eq_false, beq_iff_eq, beq_eq_false_iff_ne, bne_iff_ne, bne_eq_false_iff_eq, ne_eq, Int.not_lt, Int.not_le, ge_iff_le, gt_iff_lt, Decidable.not_not, reduceCtorEq, *] at hc) <;> (try (exfalso; omega)))
    | ((with_reducible apply opsF.und); (case hg => rfl))
    | ((with_reducible apply retF.r); (case hv => exact tRS))
    | ((with_reducible apply retF.nn); (case hv => exact tRS))
    | ((refine Call.use (hdb _) ?_))
    | ((refine Call.use (hco _) ?_))
    | ((refine Call.use (hcb _) ?_)))
            have k := TS.up3 hT (.refl _) hT2 hT3 hT5 hT6 (true, lowerS b)
            simpa only [tabC, List.map_append, List.map_cons, List.map_nil, brow, List.cons_append, List.nil_append, List.set_cons_succ, List.set_cons_zero, Option.map_some, if_true, decide_true] using k
        · rw [hk] at hco
          have hbn : banN b = canonO b := by rw [banN, hk]; rfl
          rw [hbn]
          clear hbn
          cases hd : canonO b with
          | none =>
            rw [hd] at hcb
            simp only [optV] at hcb
            repeat' (first
    | ((with_reducible apply opsF.op rfl); (case hs => (first | exact tHT | exact tHS)))
    | with_reducible (first | apply opsF.nil | apply seqF.nn | apply vcF.seq | apply vcF.region | apply vcF.skip | apply vcF.ret | apply seqF.r)
    | ((with_reducible apply opsF.call); (case hx => exact tAG))
    | ((with_reducible apply opsF.want); (case hg => exact tEV); (case hb => exact tNB))
    | ((with_reducible apply opsF.skip); (case hg => exact tEV); (case hb => exact tNB))
    | (first | ((with_reducible apply opsF.case); (case hg => exact tEV)) | ((with_reducible apply vcF.cond); (case hx => exact tEV))) <;> ((intro hc; try simp only [Int.reduceLT, Int.reduceLE, Int.reduceEq, Int.reduceNe, Int.cast_ofNat_Int, Int.reduceNeg, decide_true, decide_false, not_true_eq_false, not_false_eq_true, decide_eq_true_eq, decide_eq_false_iff_not, Bool.not_eq_true', Bool.not_eq_false', Bool.not_true, Bool.not_false, Bool.false_eq_true, Bool.true_eq_false, Bool.not_eq_true, Bool.not_eq_false, beq_iff_eq, beq_eq_false_iff_ne, bne_iff_ne, bne_eq_false_iff_eq, ne_eq, Int.not_lt, Int.not_le, ge_iff_le, gt_iff_lt, Decidable.not_not, reduceCtorEq, *] at hc) <;> (try (exfalso; omega)))
    | ((with_reducible apply opsF.und); (case hg => rfl))
    | ((with_reducible apply retF.r); (case hv => exact tRS))
    | ((with_reducible apply retF.nn); (case hv => exact tRS))
    | ((refine Call.use (hdb _) ?_))
    | ((refine Call.use (hco _) ?_))
    | ((refine Call.use (hcb _) ?_)))
            all_goals exact methP_none (hX _)
          | some n =>
            rw [hd] at hcb
            simp only [optV] at hcb
            repeat' (first
    | ((with_reducible apply opsF.op rfl); (case hs => (first | exact tHT | exact tHS)))
    | with_reducible (first | apply opsF.nil | apply seqF.nn | apply vcF.seq | apply vcF.region | apply vcF.skip | apply vcF.ret | apply seqF.r)
    | ((with_reducible apply opsF.call); (case hx => exact tAG))
    | ((with_reducible apply opsF.want); (case hg => exact tEV); (case hb => exact tNB))
    | ((with_reducible apply opsF.skip); (case hg => exact tEV); (case hb => exact tNB))
    | (first | ((with_reducible apply opsF.case); (case hg => exact tEV)) | ((with_reducible apply vcF.cond); (case hx => exact tEV))) <;> ((intro hc; try simp only [Int.reduceLT, Int.reduceLE, Int.reduceEq, Int.reduceNe, Int.cast_ofNat_Int, Int.reduceNeg, decide_true, decide_false, not_true_eq_false, not_false_eq_true, decide_eq_true_eq, decide_eq_false_iff_not, Bool.not_eq_true', Bool.not_eq_false', Bool.not_true, Bool.not_false, Bool.false_eq_true, Bool.true_eq_false, Bool.not_eq_true, Bool.not_eq_false, beq_iff_eq, beq_eq_false_iff_ne, bne_iff_ne, bne_eq_false_iff_eq, ne_eq, Int.not_lt, Int.not_le, ge_iff_le, gt_iff_lt, Decidable.not_not, reduceCtorEq, *] at hc) <;> (try (exfalso; omega)))
    | ((with_reducible apply opsF.und); (case hg => rfl))
    | ((with_reducible apply retF.r); (case hv => exact tRS))
    | ((with_reducible apply retF.nn); (case hv => exact tRS))
    | ((refine Call.use (hdb _) ?_))
    | ((refine Call.use (hco _) ?_))
    | ((refine Call.use (hcb _) ?_)))
            have k := TS.up3 hT (.refl _) hT2 hT3 hT5 hT6 (true, n)
            simpa only [tabC, List.map_append, List.map_cons, List.map_nil, brow, List.cons_append, List.nil_append, List.set_cons_succ, List.set_cons_zero, Option.map_some, if_true, decide_true] using k
      · rw [decide_eq_false ha1]
        have ha2 : (a = [116, 111]) = True := eq_true (ha.resolve_left ha1)
        clear ha
        cases hk : b.contains 64
        · rw [hk] at hco
          have hbn : banN b = if domainS b then some (lowerS b) else none := by rw [banN, hk]; rfl
          rw [hbn]
          clear hbn hcb
          cases hd : domainS b
          · rw [hd] at hdb
            repeat' (first
    | ((with_reducible apply opsF.op rfl); (case hs => (first | exact tHT | exact tHS)))
    | with_reducible (first | apply opsF.nil | apply seqF.nn | apply vcF.seq | apply vcF.region | apply vcF.skip | apply vcF.ret | apply seqF.r)
    | ((with_reducible apply opsF.call); (case hx => exact tAG))
    | ((with_reducible apply opsF.want); (case hg => exact tEV); (case hb => exact tNB))
    | ((with_reducible apply opsF.skip); (case hg => exact tEV); (case hb => exact tNB))
    | (first | ((with_reducible apply opsF.case); (case hg => exact tEV)) | ((with_reducible apply vcF.cond); (case hx => exact tEV))) <;> ((intro hc; try simp only [Int.reduceLT, Int.reduceLE, Int.reduceEq, Int.reduceNe, Int.cast_ofNat_Int, Int.reduceNeg, decide_true, decide_false, not_true_eq_false, not_false_eq_true, decide_eq_true_eq, decide_eq_false_iff_not, Bool.not_eq_true', Bool.not_eq_false', Bool.not_true, Bool.not_false, Bool.false_eq_true, Bool.true_eq_false, Bool.not_eq_true, Bool.not_eq_false, beq_iff_eq, beq_eq_false_iff_ne, bne_iff_ne, bne_eq_false_iff_eq, ne_eq, Int.not_lt, Int.not_le, ge_iff_le, gt_iff_lt, Decidable.not_not, reduceCtorEq, *] at hc) <;> (try (exfalso; omega)))
    | ((with_reducible apply opsF.und); (case hg => rfl))
    | ((with_reducible apply retF.r); (case hv => exact tRS))
    | ((with_reducible apply retF.nn); (case hv => exact tRS))
    | ((refine Call.use (hdb _) ?_))
    | ((refine Call.use (hco _) ?_))
    | ((refine Call.use (hcb _) ?_)))
            all_goals exact methP_none (hX _)
          · rw [hd] at hdb
            repeat' (first
    | ((with_reducible apply opsF.op rfl); (case hs => (first | exact tHT | exact tHS)))
    | with_reducible (first | apply opsF.nil | apply seqF.nn | apply vcF.seq | apply vcF.region | apply vcF.skip | apply vcF.ret | apply seqF.r)
    | ((with_reducible apply opsF.call); (case hx => exact tAG))
    | ((with_reducible apply opsF.want); (case hg => exact tEV); (case hb => exact tNB))
    | ((with_reducible apply opsF.skip); (case hg => exact tEV); (case hb => exact tNB))
    | (first | ((with_reducible apply opsF.case); (case hg => exact tEV)) | ((with_reducible apply vcF.cond); (case hx => exact tEV))) <;> ((intro hc; try simp only [Int.reduceLT, Int.reduceLE, Int.reduceEq, Int.reduceNe, Int.cast_ofNat_Int, Int.reduceNeg, decide_true, decide_false, not_true_eq_false, not_false_eq_true, decide_eq_true_eq, decide_eq_false_iff_not, Bool.not_eq_true', Bool.not_eq_false', Bool.not_true, Bool.not_false, Bool.false_eq_true, Bool.true_eq_false, Bool.not_eq_true, Bool.not_eq_false, beq_iff_eq, beq_eq_false_iff_ne, bne_iff_ne, bne_eq_false_iff_eq, ne_eq, Int.not_lt, Int.not_le, ge_iff_le, gt_iff_lt, Decidable.not_not, reduceCtorEq, *] at hc) <;> (try (exfalso; omega)))
    | ((with_reducible apply opsF.und); (case hg => rfl))
    | ((with_reducible apply retF.r); (case hv => exact tRS))
    | ((with_reducible apply retF.nn); (case hv => exact tRS))
    | ((refine Call.use (hdb _) ?_))
    | ((refine Call.use (hco _) ?_))
    | ((refine Call.use (hcb _) ?_)))
            have k := TS.up3 hT (.refl _) hT2 hT3 hT5 hT6 (false, lowerS b)
            simpa only [tabC, List.map_append, List.map_cons, List.map_nil, brow, List.cons_append, List.nil_append, List.set_cons_succ, List.set_cons_zero, Option.map_some, if_true, decide_false, ha1] using k
        · rw [hk] at hco
          have hbn : banN b = canonO b := by rw [banN, hk]; rfl
          rw [hbn]
          clear hbn
          cases hd : canonO b with
          | none =>
            rw [hd] at hcb
            simp only [optV] at hcb
            repeat' (first
    | ((with_reducible apply opsF.op rfl); (case hs => (first | exact tHT | exact tHS)))
    | with_reducible (first | apply opsF.nil | apply seqF.nn | apply vcF.seq | apply vcF.region | apply vcF.skip | apply vcF.ret | apply seqF.r)
    | ((with_reducible apply opsF.call); (case hx => exact tAG))
    | ((with_reducible apply opsF.want); (case hg => exact tEV); (case hb => exact tNB))
    | ((with_reducible apply opsF.skip); (case hg => exact tEV); (case hb => exact tNB))
    | (first | ((with_reducible apply opsF.case); (case hg => exact tEV)) | ((with_reducible apply vcF.cond); (case hx => exact tEV))) <;> ((intro hc; try simp only [Int.reduceLT, Int.reduceLE, Int.reduceEq, Int.reduceNe, Int.cast_ofNat_Int, Int.reduceNeg, decide_true, decide_false, not_true_eq_false, not_false_eq_true, decide_eq_true_eq, decide_eq_false_iff_not, Bool.not_eq_true', Bool.not_eq_false', Bool.not_true, Bool.not_false, Bool.false_eq_true, Bool.true_eq_false, Bool.not_eq_true, Bool.not_eq_false, beq_iff_eq, beq_eq_false_iff_ne, bne_iff_ne, bne_eq_false_iff_eq, ne_eq, Int.not_lt, Int.not_le, ge_iff_le, gt_iff_lt, Decidable.not_not, reduceCtorEq, *] at hc) <;> (try (exfalso; omega)))
    | ((with_reducible apply opsF.und); (case hg => rfl))
    | ((with_reducible apply retF.r); (case hv => exact tRS))
    | ((with_reducible apply retF.nn); (case hv => exact tRS))
    | ((refine Call.use (hdb _) ?_))
    | ((refine Call.use (hco _) ?_))
    | ((refine Call.use (hcb _) ?_)))
            all_goals exact methP_none (hX _)
          | some n =>
            rw [hd] at hcb
            simp only [optV] at hcb
            repeat' (first
    | ((with_reducible apply opsF.op rfl); (case hs => (first | exact tHT | exact tHS)))
    | with_reducible (first | apply opsF.nil | apply seqF.nn | apply vcF.seq | apply vcF.region | apply vcF.skip | apply vcF.ret | apply seqF.r)
    | ((with_reducible apply opsF.call); (case hx => exact tAG))
    | ((with_reducible apply opsF.want); (case hg => exact tEV); (case hb => exact tNB))
    | ((with_reducible apply opsF.skip); (case hg => exact tEV); (case hb => exact tNB))
    | (first | ((with_reducible apply opsF.case); (case hg => exact tEV)) | ((with_reducible apply vcF.cond); (case hx => exact tEV))) <;> ((intro hc; try simp only [Int.reduceLT, Int.reduceLE, Int.reduceEq, Int.reduceNe, Int.cast_ofNat_Int, Int.reduceNeg, decide_true, decide_false, not_true_eq_false, not_false_eq_true, decide_eq_true_eq, decide_eq_false_iff_not, Bool.not_eq_true', Bool.not_eq_false', Bool.not_true, Bool.not_false, Bool.false_eq_true, Bool.true_eq_false, Bool.not_eq_true, Bool.not_eq_false, beq_iff_eq, beq_eq_false_iff_ne, bne_iff_ne, bne_eq_false_iff_eq, ne_eq, Int.not_lt, Int.not_le, ge_iff_le, gt_iff_lt, Decidable.not_not, reduceCtorEq, *] at hc) <;> (try (exfalso; omega)))
    | ((with_reducible apply opsF.und); (case hg => rfl))
    | ((with_reducible apply retF.r); (case hv => exact tRS))
    | ((with_reducible apply retF.nn); (case hv => exact tRS))
    | ((refine Call.use (hdb _) ?_))
    | ((refine Call.use (hco _) ?_))
    | ((refine Call.use (hcb _) ?_)))
            have k := TS.up3 hT (.refl _) hT2 hT3 hT5 hT6 (false, n)
            simpa only [tabC, List.map_append, List.map_cons, List.map_nil, brow, List.cons_append, List.nil_append, List.set_cons_succ, List.set_cons_zero, Option.map_some, if_true, decide_false, ha1] using k
    · rw [if_neg ha]
      have ha1 : ¬ a = [102, 114, 111, 109] := fun e => ha (.inl e)
      have ha2 : ¬ a = [116, 111] := fun e => ha (.inr e)
      clear ha
      repeat' (first
    | ((with_reducible apply opsF.op rfl); (case hs => (first | exact tHT | exact tHS)))
    | with_reducible (first | apply opsF.nil | apply seqF.nn | apply vcF.seq | apply vcF.region | apply vcF.skip | apply vcF.ret | apply seqF.r)
    | ((with_reducible apply opsF.call); (case hx => exact tAG))
    | ((with_reducible apply opsF.want); (case hg => exact tEV); (case hb => exact tNB))
    | ((with_reducible apply opsF.skip); (case hg => exact tEV); (case hb => exact tNB))
    | (first | ((with_reducible apply opsF.case); (case hg => exact tEV)) | ((with_reducible apply vcF.cond); (case hx => exact tEV))) <;> ((intro hc; try simp only [Int.reduceLT, Int.reduceLE, Int.reduceEq, Int.reduceNe, Int.cast_ofNat_Int, Int.reduceNeg, decide_true, decide_false, not_true_eq_false, not_false_eq_true, decide_eq_true_eq, decide_eq_false_iff_not, Bool.not_eq_true', Bool.not_eq_false', Bool.not_true, Bool.not_false, Bool.false_eq_true, Bool.true_eq_false, Bool.not_eq_true, Bool.not_eq_false, beq_iff_eq, beq_eq_false_iff_ne, bne_iff_ne, bne_eq_false_iff_eq, ne_eq, Int.not_lt, Int.not_le, ge_iff_le, gt_iff_lt, Decidable.not_not, reduceCtorEq, *] at hc) <;> (try (exfalso; omega)))
    | ((with_reducible apply opsF.und); (case hg => rfl))
    | ((with_reducible apply retF.r); (case hv => exact tRS))
    | ((with_reducible apply retF.nn); (case hv => exact tRS)))
      all_goals exact methP_none (.of (.refl _))
  · have hno : banO t ws = none := by
      unfold banO
      split
      · simp at hl2
      · rfl
    rw [hno]
    have hl2' : ¬ (ws.length : Int) = 2 := by omega
    repeat' (first
    | ((with_reducible apply opsF.op rfl); (case hs => (first | exact tHT | exact tHS)))
    | with_reducible (first | apply opsF.nil | apply seqF.nn | apply vcF.seq | apply vcF.region | apply vcF.skip | apply vcF.ret | apply seqF.r)
    | ((with_reducible apply opsF.call); (case hx => exact tAG))
    | ((with_reducible apply opsF.want); (case hg => exact tEV); (case hb => exact tNB))
    | ((with_reducible apply opsF.skip); (case hg => exact tEV); (case hb => exact tNB))
    | (first | ((with_reducible apply opsF.case); (case hg => exact tEV)) | ((with_reducible apply vcF.cond); (case hx => exact tEV))) <;> ((intro hc; try simp only [Int.reduceLT, Int.reduceLE, Int.reduceEq, Int.reduceNe, Int.cast_ofNat_Int, Int.reduceNeg, decide_true, decide_false, not_true_eq_false, not_false_eq_true, decide_eq_true_eq, decide_eq_false_iff_not, Bool.not_eq_true', Bool.not_eq_false', Bool.not_true, Bool.not_false, Bool.false_eq_true, Bool.true_eq_false, Bool.not_eq_true, Bool.not_eq_false, beq_iff_eq, beq_eq_false_iff_ne, bne_iff_ne, bne_eq_false_iff_eq, ne_eq, Int.not_lt, Int.not_le, ge_iff_le, gt_iff_lt, Decidable.not_not, reduceCtorEq, *] at hc) <;> (try (exfalso; omega)))
    | ((with_reducible apply opsF.und); (case hg => rfl))
    | ((with_reducible apply retF.r); (case hv => exact tRS))
    | ((with_reducible apply retF.nn); (case hv => exact tRS)))
    all_goals exact methP_none (.of (.refl _))
end Go.Abs.F
namespace Go.Abs.F
open Go Go.Abs
set_option maxRecDepth 10000
set_option maxHeartbeats 20000000
set_option linter.unusedSimpArgs false
set_option linter.unusedVariables false
variable {w0 : World}
theorem TS.size {B : Nat} {h : AH} {id : Nat} {t : TB} {rest : List AV} {t1 t2 t3 : Tok} (hT : TS B h id t rest t1 t2 t3) (n : Int) : TS B (h.set id (.cells (tabC (t.1, t.2.1, t.2.2.1, n) t1 t2 t3 ++ rest))) id (t.1, t.2.1, t.2.2.1, n) rest t1 t2 t3 :=
  ⟨by rw [set_at, if_pos rfl], hT.lt, hT.nt, hT.u1.set, hT.u2.set, hT.u3.set, hT.d12, hT.d13, hT.d23, hT.b1, hT.b2, hT.b3⟩
theorem size_call (hP : PowTab w0) (hE : ErrVars w0) (B : Nat) (id : Nat) (t : TB) (rest : List AV) (t1 t2 t3 : Tok) (ws : List (List UInt8)) (tkw : Tok) (h : AH) (hT : TS B h id t rest t1 t2 t3) (hw : ∀ w ∈ ws, w.length ≤ 1000000) (hl : ws.length ≤ 1000000) :
    Call P w0 table_parser_size [.ptr id 0, .list 1 (srows ws) tkw] h (MethP B h id (sizeO t ws) rest) := by
  have xl := srows_len
  have xg := srows_get
  have hob := hT.ob
  have hlt := hT.lt
  refine Call.bodyF b_table_parser_size rfl rfl ?_
  unfold c_table_parser_size
  by_cases hl2 : ws.length = 1
  · obtain ⟨a, rfl⟩ : ∃ a, ws = [a] := by
      match ws, hl2 with
      | [a], _ => exact ⟨a, rfl⟩
    have h0 : ([a] : List (List UInt8))[0]? = some a := rfl
    have hal := hw a (by simp)
    rw [sizeO]
    obtain ⟨ws, hws⟩ : ∃ ws, ws = [a] := ⟨_, rfl⟩
    rw [← hws] at h0 hl2 ⊢
    clear hws hw hl
    have hn1 : (ws.length : Int) = 1 := by omega
    clear hl2
    unfold tabC at hob
    by_cases hs : t.2.2.2 > 0
    · rw [if_pos hs]
      repeat' (first
    | ((with_reducible apply opsF.op rfl); (case hs => (first | exact tHT | exact tHS)))
    | with_reducible (first | apply opsF.nil | apply seqF.nn | apply vcF.seq | apply vcF.region | apply vcF.dregion | apply vcF.skip | apply vcF.ret | apply seqF.r | apply dopsF.nil | apply stabsF.nil | apply stabsF.cons | apply dopsF.cont)
    | ((with_reducible apply opsF.call); (case hx => exact tAG))
    | ((with_reducible apply opsF.want); (case hg => exact tEV); (case hb => exact tNB))
    | ((with_reducible apply opsF.skip); (case hg => exact tEV); (case hb => exact tNB))
    | (first | ((with_reducible apply opsF.case); (case hg => exact tEV)) | ((with_reducible apply vcF.cond); (case hx => exact tEV)) | ((with_reducible apply dopsF.case); (case hg => exact tEV))) <;> ((intro hc; try simp only [Int.reduceLT, Int.reduceLE, Int.reduceEq, Int.reduceNe, Int.cast_ofNat_Int, Int.reduceNeg, decide_true, decide_false, not_true_eq_false, not_false_eq_true, decide_eq_true_eq, decide_eq_false_iff_not, Bool.not_eq_true', Bool.not_eq_false', Bool.not_true, Bool.not_false, Bool.false_eq_true, Bool.true_eq_false, Bool.not_eq_true, Bool.not_eq_false, beq_iff_eq, beq_eq_false_iff_ne, bne_iff_ne, bne_eq_false_iff_eq, ne_eq, Int.not_lt, Int.not_le, ge_iff_le, gt_iff_lt, Decidable.not_not, reduceCtorEq, *] at hc) <;> (try (exfalso; omega)))
    | ((with_reducible apply opsF.und); (case hg => rfl))
    | ((with_reducible apply dopsF.op rfl); (case hs => (first | exact tHT | exact tHS)))
    | ((with_reducible apply dopsF.call); (case hx => exact tAG))
    | ((with_reducible apply dopsF.want); (case hg => exact tEV); (case hb => exact tNB))
    | ((with_reducible apply dopsF.skip); (case hg => exact tEV); (case hb => exact tNB))
    | ((with_reducible apply dopsF.und); (case hg => rfl))
    | ((with_reducible apply stabF.und); rfl)
    | ((with_reducible apply stabF.want); (case hg => exact tEV); (case hb => exact tNB))
    | ((with_reducible apply stabF.skip); (case hg => exact tEV); (case hb => exact tNB))
    | ((with_reducible apply stabF.op); (case hs => (first | exact tHT | exact tHS)); (case hv => exact tSV))
    | ((with_reducible apply retF.r); (case hv => exact tRS))
    | ((with_reducible apply retF.nn); (case hv => exact tRS)))
      all_goals exact methP_none (.of (.refl _))
    · rw [if_neg hs]
      have hX : ∀ cs, ExtI B id h (h.set id cs) := fun cs => ExtX.set (I := fun i => i = id) (i := id) (.of (.refl _)) (.inl rfl) _
      cases hA : Lib.atoiAll a with
      | ok n =>
        have hr := atoi_range hA
        have hat : ∀ h, Call P w0 strconv_Atoi [.v (.string (bs a))] h (fun v h' => v = .tup [.v (.int .i64 n), .v .nilIface] ∧ h' = h) := fun h => (atoiA_call hE a h (by omega)).mono fun v h' hq => by
          refine ⟨?_, hq.2⟩
          rcases hq.1 with ⟨m, hm, rfl⟩ | ⟨hm, _⟩
          · rw [hA] at hm; cases hm; rfl
          · exact absurd hA (hm n)
        have hit := fun h => itoa_call (w0 := w0) hP n h hr.1 hr.2
        have hsz : sizeN a = if decS n = a ∧ 1 ≤ n ∧ n ≤ 65536 then some n else none := by rw [sizeN, hA]
        rw [hsz]
        clear hsz hA
        by_cases hd : decS n = a
        · subst hd
          by_cases hr2 : 1 ≤ n ∧ n ≤ 65536
          · rw [if_pos ⟨rfl, hr2⟩]
            obtain ⟨g1, g2⟩ := hr2
            repeat' (first
    | ((with_reducible apply opsF.op rfl); (case hs => (first | exact tHT | exact tHS)))
    | with_reducible (first | apply opsF.nil | apply seqF.nn | apply vcF.seq | apply vcF.region | apply vcF.dregion | apply vcF.skip | apply vcF.ret | apply seqF.r | apply dopsF.nil | apply stabsF.nil | apply stabsF.cons | apply dopsF.cont)
    | ((with_reducible apply opsF.call); (case hx => exact tAG))
    | ((with_reducible apply opsF.want); (case hg => exact tEV); (case hb => exact tNB))
    | ((with_reducible apply opsF.skip); (case hg => exact tEV); (case hb => exact tNB))
    | (first | ((with_reducible apply opsF.case); (case hg => exact tEV)) | ((with_reducible apply vcF.cond); (case hx => exact tEV)) | ((with_reducible apply dopsF.case); (case hg => exact tEV))) <;> ((intro hc; try simp only [Int.reduceLT, Int.reduceLE, Int.reduceEq, Int.reduceNe, Int.cast_ofNat_Int, Int.reduceNeg, decide_true, decide_false, not_true_eq_false, not_false_eq_true, decide_eq_true_eq, decide_eq_false_iff_not, Bool.not_eq_true', Bool.not_eq_false', Bool.not_true, Bool.not_false, Bool.false_eq_true, Bool.true_eq_false, Bool.not_eq_true, Bool.not_eq_false, beq_iff_eq, beq_eq_false_iff_ne, bne_iff_ne, bne_eq_false_iff_eq, ne_eq, Int.not_lt, Int.not_le, ge_iff_le, gt_iff_lt, Decidable.not_not, reduceCtorEq, *] at hc) <;> (try (exfalso; omega)))
    | ((with_reducible apply opsF.und); (case hg => rfl))
    | ((with_reducible apply dopsF.op rfl); (case hs => (first | exact tHT | exact tHS)))
    | ((with_reducible apply dopsF.call); (case hx => exact tAG))
    | ((with_reducible apply dopsF.want); (case hg => exact tEV); (case hb => exact tNB))
    | ((with_reducible apply dopsF.skip); (case hg => exact tEV); (case hb => exact tNB))
    | ((with_reducible apply dopsF.und); (case hg => rfl))
    | ((with_reducible apply stabF.und); rfl)
    | ((with_reducible apply stabF.want); (case hg => exact tEV); (case hb => exact tNB))
    | ((with_reducible apply stabF.skip); (case hg => exact tEV); (case hb => exact tNB))
    | ((with_reducible apply stabF.op); (case hs => (first | exact tHT | exact tHS)); (case hv => exact tSV))
    | ((with_reducible apply retF.r); (case hv => exact tRS))
    | ((with_reducible apply retF.nn); (case hv => exact tRS))
    | ((refine Call.use (hat _) ?_))
    | ((refine Call.use (hit _) ?_)))
            refine ⟨rfl, hX _, fun t' ht => ?_⟩
            cases ht
            exact ⟨t1, t2, t3, hT.size n⟩
          · rw [if_neg (fun e => hr2 e.2)]
            rcases Int.lt_or_le n 1 with g1 | g1
            · repeat' (first
    | ((with_reducible apply opsF.op rfl); (case hs => (first | exact tHT | exact tHS)))
    | with_reducible (first | apply opsF.nil | apply seqF.nn | apply vcF.seq | apply vcF.region | apply vcF.dregion | apply vcF.skip | apply vcF.ret | apply seqF.r | apply dopsF.nil | apply stabsF.nil | apply stabsF.cons | apply dopsF.cont)
    | ((with_reducible apply opsF.call); (case hx => exact tAG))
    | ((with_reducible apply opsF.want); (case hg => exact tEV); (case hb => exact tNB))
    | ((with_reducible apply opsF.skip); (case hg => exact tEV); (case hb => exact tNB))
    | (first | ((with_reducible apply opsF.case); (case hg => exact tEV)) | ((with_reducible apply vcF.cond); (case hx => exact tEV)) | ((with_reducible apply dopsF.case); (case hg => exact tEV))) <;> ((intro hc; try simp only [Int.reduceLT, Int.reduceLE, Int.reduceEq, Int.reduceNe, Int.cast_ofNat_Int, Int.reduceNeg, decide_true, decide_false, not_true_eq_false, not_false_eq_true, decide_eq_true_eq, decide_eq_false_iff_not, Bool.not_eq_true', Bool.not_eq_false', Bool.not_true, Bool.not_false, Bool.false_eq_true, Bool.true_eq_false, Bool.not_eq_true, Bool.not_eq_false, beq_iff_eq, beq_eq_false_iff_ne, bne_iff_ne, bne_eq_false_iff_eq, ne_eq, Int.not_lt, Int.not_le, ge_iff_le, gt_iff_lt, Decidable.not_not, reduceCtorEq, *] at hc) <;> (try (exfalso; omega)))
    | ((with_reducible apply opsF.und); (case hg => rfl))
    | ((with_reducible apply dopsF.op rfl); (case hs => (first | exact tHT | exact tHS)))
    | ((with_reducible apply dopsF.call); (case hx => exact tAG))
    | ((with_reducible apply dopsF.want); (case hg => exact tEV); (case hb => exact tNB))
    | ((with_reducible apply dopsF.skip); (case hg => exact tEV); (case hb => exact tNB))
    | ((with_reducible apply dopsF.und); (case hg => rfl))
    | ((with_reducible apply stabF.und); rfl)
    | ((with_reducible apply stabF.want); (case hg => exact tEV); (case hb => exact tNB))
    | ((with_reducible apply stabF.skip); (case hg => exact tEV); (case hb => exact tNB))
    | ((with_reducible apply stabF.op); (case hs => (first | exact tHT | exact tHS)); (case hv => exact tSV))
    | ((with_reducible apply retF.r); (case hv => exact tRS))
    | ((with_reducible apply retF.nn); (case hv => exact tRS))
    | ((refine Call.use (hat _) ?_))
    | ((refine Call.use (hit _) ?_)))
              all_goals exact methP_none (hX _)
            · have g2 : 65536 < n := by omega
              repeat' (first
    | ((with_reducible apply opsF.op rfl); (case hs => (first | exact tHT | exact tHS)))
    | with_reducible (first | apply opsF.nil | apply seqF.nn | apply vcF.seq | apply vcF.region | apply vcF.dregion | apply vcF.skip | apply vcF.ret | apply seqF.r | apply dopsF.nil | apply stabsF.nil | apply stabsF.cons | apply dopsF.cont)
    | ((with_reducible apply opsF.call); (case hx => exact tAG))
    | ((with_reducible apply opsF.want); (case hg => exact tEV); (case hb => exact tNB))
    | ((with_reducible apply opsF.skip); (case hg => exact tEV); (case hb => exact tNB))
    | (first | ((with_reducible apply opsF.case); (case hg => exact tEV)) | ((with_reducible apply vcF.cond); (case hx => exact tEV)) | ((with_reducible apply dopsF.case); (case hg => exact tEV))) <;> ((intro hc; try simp only [Int.reduceLT, Int.reduceLE, Int.reduceEq, Int.reduceNe, Int.cast_ofNat_Int, Int.reduceNeg, decide_true, decide_false, not_true_eq_false, not_false_eq_true, decide_eq_true_eq, decide_eq_false_iff_not, Bool.not_eq_true', Bool.not_eq_false', Bool.not_true, Bool.not_false, Bool.false_eq_true, Bool.true_eq_false, Bool.not_eq_true, Bool.not_eq_false, beq_iff_eq, beq_eq_false_iff_ne, bne_iff_ne, bne_eq_false_iff_eq, ne_eq, Int.not_lt, Int.not_le, ge_iff_le, gt_iff_lt, Decidable.not_not, reduceCtorEq, *] at hc) <;> (try (exfalso; omega)))
    | ((with_reducible apply opsF.und); (case hg => rfl))
    | ((with_reducible apply dopsF.op rfl); (case hs => (first | exact tHT | exact tHS)))
    | ((with_reducible apply dopsF.call); (case hx => exact tAG))
    | ((with_reducible apply dopsF.want); (case hg => exact tEV); (case hb => exact tNB))
    | ((with_reducible apply dopsF.skip); (case hg => exact tEV); (case hb => exact tNB))
    | ((with_reducible apply dopsF.und); (case hg => rfl))
    | ((with_reducible apply stabF.und); rfl)
    | ((with_reducible apply stabF.want); (case hg => exact tEV); (case hb => exact tNB))
    | ((with_reducible apply stabF.skip); (case hg => exact tEV); (case hb => exact tNB))
    | ((with_reducible apply stabF.op); (case hs => (first | exact tHT | exact tHS)); (case hv => exact tSV))
    | ((with_reducible apply retF.r); (case hv => exact tRS))
    | ((with_reducible apply retF.nn); (case hv => exact tRS))
    | ((refine Call.use (hat _) ?_))
    | ((refine Call.use (hit _) ?_)))
              all_goals rw [decide_eq_false (by omega)]
              all_goals exact methP_none (hX _)
        · rw [if_neg (fun e => hd e.1)]
          repeat' (first
    | ((with_reducible apply opsF.op rfl); (case hs => (first | exact tHT | exact tHS)))
    | with_reducible (first | apply opsF.nil | apply seqF.nn | apply vcF.seq | apply vcF.region | apply vcF.dregion | apply vcF.skip | apply vcF.ret | apply seqF.r | apply dopsF.nil | apply stabsF.nil | apply stabsF.cons | apply dopsF.cont)
    | ((with_reducible apply opsF.call); (case hx => exact tAG))
    | ((with_reducible apply opsF.want); (case hg => exact tEV); (case hb => exact tNB))
    | ((with_reducible apply opsF.skip); (case hg => exact tEV); (case hb => exact tNB))
    | (first | ((with_reducible apply opsF.case); (case hg => exact tEV)) | ((with_reducible apply vcF.cond); (case hx => exact tEV)) | ((with_reducible apply dopsF.case); (case hg => exact tEV))) <;> ((intro hc; try simp only [Int.reduceLT, Int.reduceLE, Int.reduceEq, Int.reduceNe, Int.cast_ofNat_Int, Int.reduceNeg, decide_true, decide_false, not_true_eq_false, not_false_eq_true, decide_eq_true_eq, decide_eq_false_iff_not, Bool.not_eq_true', Bool.not_eq_false', Bool.not_true, Bool.not_false, Bool.false_eq_true, Bool.true_eq_false, Bool.not_eq_true, Bool.not_eq_false, beq_iff_eq, beq_eq_false_iff_ne, bne_iff_ne, bne_eq_false_iff_eq, ne_eq, Int.not_lt, Int.not_le, ge_iff_le, gt_iff_lt, Decidable.not_not, reduceCtorEq, *] at hc) <;> (try (exfalso; omega)))
    | ((with_reducible apply opsF.und); (case hg => rfl))
    | ((with_reducible apply dopsF.op rfl); (case hs => (first | exact tHT | exact tHS)))
    | ((with_reducible apply dopsF.call); (case hx => exact tAG))
    | ((with_reducible apply dopsF.want); (case hg => exact tEV); (case hb => exact tNB))
    | ((with_reducible apply dopsF.skip); (case hg => exact tEV); (case hb => exact tNB))
    | ((with_reducible apply dopsF.und); (case hg => rfl))
    | ((with_reducible apply stabF.und); rfl)
    | ((with_reducible apply stabF.want); (case hg => exact tEV); (case hb => exact tNB))
    | ((with_reducible apply stabF.skip); (case hg => exact tEV); (case hb => exact tNB))
    | ((with_reducible apply stabF.op); (case hs => (first | exact tHT | exact tHS)); (case hv => exact tSV))
    | ((with_reducible apply retF.r); (case hv => exact tRS))
    | ((with_reducible apply retF.nn); (case hv => exact tRS))
    | ((refine Call.use (hat _) ?_))
    | ((refine Call.use (hit _) ?_)))
          all_goals exact methP_none (hX _)
      | _ =>
        have hat : ∀ h, Call P w0 strconv_Atoi [.v (.string (bs a))] h (fun v h' => (∃ k te, v = .tup [.v (.int .i64 k), .iface te (.lptr [] 0)]) ∧ h' = h) := fun h => (atoiA_call hE a h (by omega)).mono fun v h' hq => by
          refine ⟨?_, hq.2⟩
          rcases hq.1 with ⟨m, hm, rfl⟩ | ⟨hm, hk⟩
          · rw [hA] at hm; cases hm
          · exact hk
        have hsz : sizeN a = none := by rw [sizeN, hA]
        rw [hsz]
        clear hsz hA
        repeat' (first
    | ((with_reducible apply opsF.op rfl); (case hs => (first | exact tHT | exact tHS)))
    | with_reducible (first | apply opsF.nil | apply seqF.nn | apply vcF.seq | apply vcF.region | apply vcF.dregion | apply vcF.skip | apply vcF.ret | apply seqF.r | apply dopsF.nil | apply stabsF.nil | apply stabsF.cons | apply dopsF.cont)
    | ((with_reducible apply opsF.call); (case hx => exact tAG))
    | ((with_reducible apply opsF.want); (case hg => exact tEV); (case hb => exact tNB))
    | ((with_reducible apply opsF.skip); (case hg => exact tEV); (case hb => exact tNB))
    | (first | ((with_reducible apply opsF.case); (case hg => exact tEV)) | ((with_reducible apply vcF.cond); (case hx => exact tEV)) | ((with_reducible apply dopsF.case); (case hg => exact tEV))) <;> ((intro hc; try simp only [Int.reduceLT, Int.reduceLE, Int.reduceEq, Int.reduceNe, Int.cast_ofNat_Int, Int.reduceNeg, decide_true, decide_false, not_true_eq_false, not_false_eq_true, decide_eq_true_eq, decide_eq_false_iff_not, Bool.not_eq_true', Bool.not_eq_false', Bool.not_true, Bool.not_false, Bool.false_eq_true, Bool.true_eq_false, Bool.not_eq_true, Bool.not_eq_false, beq_iff_eq, beq_eq_false_iff_ne, bne_iff_ne, bne_eq_false_iff_eq, ne_eq, Int.not_lt, Int.not_le, ge_iff_le, gt_iff_lt, Decidable.not_not, reduceCtorEq, *] at hc) <;> (try (exfalso; omega)))
    | ((with_reducible apply opsF.und); (case hg => rfl))
    | ((with_reducible apply dopsF.op rfl); (case hs => (first | exact tHT | exact tHS)))
    | ((with_reducible apply dopsF.call); (case hx => exact tAG))
    | ((with_reducible apply dopsF.want); (case hg => exact tEV); (case hb => exact tNB))
    | ((with_reducible apply dopsF.skip); (case hg => exact tEV); (case hb => exact tNB))
    | ((with_reducible apply dopsF.und); (case hg => rfl))
    | ((with_reducible apply stabF.und); rfl)
    | ((with_reducible apply stabF.want); (case hg => exact tEV); (case hb => exact tNB))
    | ((with_reducible apply stabF.skip); (case hg => exact tEV); (case hb => exact tNB))
    | ((with_reducible apply stabF.op); (case hs => (first | exact tHT | exact tHS)); (case hv => exact tSV))
    | ((with_reducible apply retF.r); (case hv => exact tRS))
    | ((with_reducible apply retF.nn); (case hv => exact tRS))
    | ((refine (hat _).mono fun v h1 hq => ?_); obtain ⟨⟨k, te, rfl⟩, rfl⟩ := hq))
        all_goals exact methP_none (hX _)
  · have hno : sizeO t ws = none := by
      unfold sizeO
      split
      · simp at hl2
      · rfl
    rw [hno]
    have hl2' : ¬ (ws.length : Int) = 1 := by omega
    repeat' (first
    | ((with_reducible apply opsF.op rfl); (case hs => (first | exact tHT | exact tHS)))
    | with_reducible (first | apply opsF.nil | apply seqF.nn | apply vcF.seq | apply vcF.region | apply vcF.dregion | apply vcF.skip | apply vcF.ret | apply seqF.r | apply dopsF.nil | apply stabsF.nil | apply stabsF.cons | apply dopsF.cont)
    | ((with_reducible apply opsF.call); (case hx => exact tAG))
    | ((with_reducible apply opsF.want); (case hg => exact tEV); (case hb => exact tNB))
    | ((with_reducible apply opsF.skip); (case hg => exact tEV); (case hb => exact tNB))
    | (first | ((with_reducible apply opsF.case); (case hg => exact tEV)) | ((with_reducible apply vcF.cond); (case hx => exact tEV)) | ((with_reducible apply dopsF.case); (case hg => exact tEV))) <;> ((intro hc; try simp only [Int.reduceLT, Int.reduceLE, Int.reduceEq, Int.reduceNe, Int.cast_ofNat_Int, Int.reduceNeg, decide_true, decide_false, not_true_eq_false, not_false_eq_true, decide_eq_true_eq, decide_eq_false_iff_not, Bool.not_eq_true', Bool.not_eq_false', Bool.not_true, Bool.not_false, Bool.false_eq_true, Bool.true_eq_false, Bool.not_eq_true, Bool.not_eq_false, beq_iff_eq, beq_eq_false_iff_ne, bne_iff_ne, bne_eq_false_iff_eq, ne_eq, Int.not_lt, Int.not_le, ge_iff_le, gt_iff_lt, Decidable.not_not, reduceCtorEq, *] at hc) <;> (try (exfalso; omega)))
    | ((with_reducible apply opsF.und); (case hg => rfl))
    | ((with_reducible apply dopsF.op rfl); (case hs => (first | exact tHT | exact tHS)))
    | ((with_reducible apply dopsF.call); (case hx => exact tAG))
    | ((with_reducible apply dopsF.want); (case hg => exact tEV); (case hb => exact tNB))
    | ((with_reducible apply dopsF.skip); (case hg => exact tEV); (case hb => exact tNB))
    | ((with_reducible apply dopsF.und); (case hg => rfl))
    | ((with_reducible apply stabF.und); rfl)
    | ((with_reducible apply stabF.want); (case hg => exact tEV); (case hb => exact tNB))
    | ((with_reducible apply stabF.skip); (case hg => exact tEV); (case hb => exact tNB))
    | ((with_reducible apply stabF.op); (case hs => (first | exact tHT | exact tHS)); (case hv => exact tSV))
    | ((with_reducible apply retF.r); (case hv => exact tRS))
    | ((with_reducible apply retF.nn); (case hv => exact tRS)))
    all_goals exact methP_none (.of (.refl _))
theorem bs_beq (a b : List UInt8) : (bs a == bs b) = decide (a = b) := by
  have e : (bs a == bs b) = (a.toArray == b.toArray) := rfl
  rw [e, Bool.eq_iff_iff, beq_iff_eq, decide_eq_true_iff]
  exact ⟨fun h => by simpa using h, fun h => by rw [h]⟩
theorem findK_cons (w k : List UInt8) (a : AV) (es : List (Value × AV)) (i : Nat) : findK .str (.string (bs w)) ((.string (bs k), a) :: es) i = if w = k then some (some (i, a)) else findK .str (.string (bs w)) es (i + 1) := by
  simp only [findK, sameKey, bs_beq]
  by_cases h : w = k
  · rw [if_pos h, decide_eq_true h]
  · rw [if_neg h, decide_eq_false h]
theorem is_upd {σ : Fm} {h : AH} {ck : CK} {m k x : Opd} {id : Nat} {kv : Value} {a : AV} {es es' : List (Value × AV)} (hm : evF σ m = .mapr id) (hk : evF σ k = .v kv) (hx : evF σ x = a) (ho : h.objs id = some (.map es)) (hf : findK ck kv es 0 = some none) (he : es ++ [(kv, a)] = es') :
    istep (.upd ck m k x) (evF σ) h = some (.v undef, h.set id (.map es')) := by
  subst he
  simp only [istep, hm, hk, hx, ho, updA, hf, Option.map_some]
theorem is_look {σ : Fm} {h : AH} {ck : CK} {z : AV} {x k : Opd} {id i : Nat} {kv : Value} {a : AV} {es : List (Value × AV)} (hx : evF σ x = .mapr id) (hk : evF σ k = .v kv) (ho : h.objs id = some (.map es)) (hf : findK ck kv es 0 = some (some (i, a))) :
    istep (.look ck z true x k) (evF σ) h = some (.tup [a, .v (.bool true)], h) := by
  simp only [istep, hx, hk, lookA, ho, hf, Option.map_some, if_true]
theorem is_look0 {σ : Fm} {h : AH} {ck : CK} {z : AV} {x k : Opd} {id : Nat} {kv : Value} {es : List (Value × AV)} (hx : evF σ x = .mapr id) (hk : evF σ k = .v kv) (ho : h.objs id = some (.map es)) (hf : findK ck kv es 0 = some none) :
    istep (.look ck z true x k) (evF σ) h = some (.tup [z, .v (.bool false)], h) := by
  simp only [istep, hx, hk, lookA, ho, hf, Option.map_some, if_true]
def ways (id : Nat) : List (Value × AV) := [(.string (bs [97, 108, 105, 97, 115]), .func (.func table_parser_alias) [.ptr id 0] []), (.string (bs [104, 111, 112]), .func (.func table_parser_hop) [.ptr id 0] []), (.string (bs [98, 97, 110]), .func (.func table_parser_ban) [.ptr id 0] []), (.string (bs [115, 105, 122, 101]), .func (.func table_parser_size) [.ptr id 0] [])]
/-- What a line does to a parser's tables and number of entries. -/
def lineN (n : Nat) : Option TB → Option (TB × Nat)
  | some t' => if n + 1 ≤ 200 then some (t', n + 1) else none
  | none => none
def lineO (l : List UInt8) (t : TB) (n : Nat) : Option (TB × Nat) := if skipB l then some (t, n) else lineN n (entryO t (splB 32 l))
def nR (n : Nat) : List AV := [.v (.int .i64 (n : Nat))]
def LineP (B : Nat) (h : AH) (id : Nat) (o : Option (TB × Nat)) (v : AV) (h' : AH) : Prop :=
  v = .v (.bool o.isSome) ∧ ExtI B id h h' ∧ ∀ t' n', o = some (t', n') → ∃ t1 t2 t3, TS B h' id t' (nR n') t1 t2 t3
theorem lineP_none {B : Nat} {h h' : AH} {id : Nat} (hE : ExtI B id h h') : LineP B h id none (.v (.bool false)) h' := ⟨rfl, hE, fun t' n' ht => by cases ht⟩
theorem TS.num {B : Nat} {h h2 : AH} {id : Nat} {t : TB} {rest rest2 : List AV} {t1 t2 t3 : Tok} (hT : TS B h id t rest t1 t2 t3) (hE : Ext h h2) : TS B (h2.set id (.cells (tabC t t1 t2 t3 ++ rest2))) id t rest2 t1 t2 t3 :=
  ⟨by rw [set_at, if_pos rfl], by rw [set_n]; exact Nat.lt_of_lt_of_le hT.lt hE.n, Nat.le_trans hT.nt hE.nt, (hT.u1.ext hE).set, (hT.u2.ext hE).set, (hT.u3.ext hE).set, hT.d12, hT.d13, hT.d23, hT.b1, hT.b2, hT.b3⟩
theorem line_way (fm : FuncId) (B : Nat) (id : Nat) (t : TB) (n : Nat) (t1 t2 t3 : Tok) (l w : List UInt8) (ws : List (List UInt8)) (o : Option TB) (h : AH) (hT : TS B h id t (nR n) t1 t2 t3) (hl : l.length ≤ 100000) (hn : n ≤ 1000) (hsk : skipB l = false) (hsp : splB 32 l = w :: ws) (j : Nat) (hf : findK .str (.string (bs w)) (ways id) 0 = some (some (j, .func (.func fm) [.ptr id 0] [])))
    (hm : ∀ (h2 : AH) tk, TS B h2 id t (nR (n + 1)) t1 t2 t3 → Call P w0 fm [.ptr id 0, .list 1 (srows ws) tk] h2 (MethP B h2 id o (nR (n + 1)))) :
    Call P w0 table_parser_line [.ptr id 0, .v (.string (bs l))] h (LineP B h id (lineN n o)) := by
  have xl := srows_len
  have xg := srows_get
  have hob := hT.ob
  have hlt := hT.lt
  have hspl := fun h => spl_call (w0 := w0) l 32 h (by omega)
  rw [hsp] at hspl
  have h0 : (w :: ws)[0]? = some w := rfl
  have hd1 : (srows (w :: ws)).drop 1 = srows ws := rfl
  have hln : (w :: ws).length = ws.length + 1 := rfl
  obtain ⟨c, l', rfl⟩ : ∃ c l', l = c :: l' := by
    cases l with
    | nil => simp [skipB] at hsk
    | cons c l' => exact ⟨c, l', rfl⟩
  have hc : ¬ (c.toNat : Int) = 35 := by
    intro e
    have : c = 35 := UInt8.toNat_inj.1 (by simpa using (by omega : c.toNat = 35))
    subst this
    simp [skipB] at hsk
  have hl0 : (c :: l')[0]? = some c := rfl
  have hne : ¬ (c :: l') = [] := by simp
  unfold tabC nR at hob
  unfold ways at hf
  refine Call.bodyF b_table_parser_line rfl rfl ?_
  unfold c_table_parser_line
  have htk : List.take (ws.length + 1 - 1) (srows ws) = srows ws := List.take_of_length_le (by rw [srows_len]; omega)
  generalize w :: ws = W at *
  generalize c :: l' = L at *
  have hXS : ∀ (h2 : AH) (o5 : AObj), Ext h h2 → ExtI B id h (h2.set id o5) := fun h2 o5 e => ExtX.set (I := fun i => i = id) (i := id) (.of e) (.inl rfl) _
  cases o with
  | none =>
    repeat' (first
    | ((with_reducible apply opsF.op rfl); (case hs => (first | exact tHT | exact tHS)))
    | with_reducible (first | apply opsF.nil | apply seqF.nn | apply vcF.seq | apply vcF.region | apply vcF.skip | apply vcF.ret | apply seqF.r)
    | ((with_reducible apply opsF.call); (case hx => exact tAG))
    | ((with_reducible apply opsF.want); (case hg => exact tEV); (case hb => exact tNB))
    | ((with_reducible apply opsF.skip); (case hg => exact tEV); (case hb => exact tNB))
    | (first | ((with_reducible apply opsF.case); (case hg => exact tEV)) | ((with_reducible apply vcF.cond); (case hx => exact tEV))) <;> ((intro hc; try simp only [Int.reduceLT, Int.reduceLE, Int.reduceEq, Int.reduceNe, Int.cast_ofNat_Int, Int.reduceNeg, decide_true, decide_false, not_true_eq_false, not_false_eq_true, decide_eq_true_eq, decide_eq_false_iff_not, Bool.not_eq_true', Bool.not_eq_false', Bool.not_true, Bool.not_false, Bool.false_eq_true, Bool.true_eq_false, Bool.not_eq_true, Bool.not_eq_false, beq_iff_eq, beq_eq_false_iff_ne, bne_iff_ne, bne_eq_false_iff_eq, ne_eq, Int.not_lt, Int.not_le, ge_iff_le, gt_iff_lt, Decidable.not_not, reduceCtorEq, *] at hc) <;> (try (exfalso; omega)))
    | ((with_reducible apply opsF.und); (case hg => rfl))
    | ((with_reducible apply opsF.callv); (case hf => exact tEV); (case hx => exact tCV))
    | ((with_reducible apply retF.r); (case hv => exact tRS))
    | ((with_reducible apply retF.nn); (case hv => exact tRS))
    | ((with_reducible apply opsF.op rfl); (case hs => ((with_reducible apply is_upd); (case hm => exact tEV); (case hk => exact tEV); (case hx => exact tEV); (case ho => exact tHE); (case hf => kernel_rfl); (case he => (simp only [List.nil_append, List.cons_append]; rfl)))))
    | ((with_reducible apply opsF.op rfl); (case hs => ((with_reducible apply is_look); (case hx => exact tEV); (case hk => exact tEV); (case ho => exact tHE); (case hf => exact hf))))
    | ((refine (hspl _).mono fun v h1 hq => ?_); obtain ⟨rfl, he⟩ := hq; have hN := he.n; have hO := he.objs; (try simp only [alloc_n, set_n, newTok_n, bump_n] at hN hO); have EXm : ∀ o0 o1 o2 o3 o4 : AObj, Ext h (((((h1.alloc o0).set h1.n o1).set h1.n o2).set h1.n o3).set h1.n o4) := fun o0 o1 o2 o3 o4 => ((((he.trans (Ext.alloc _ _)).set he.n _).set he.n _).set he.n _).set he.n _)
    | ((refine (hm _ _ (hT.num (EXm _ _ _ _ _))).mono fun v h3 hq => ?_); obtain ⟨rfl, hE3, hS3⟩ := hq))
    all_goals exact lineP_none ((hXS _ _ (EXm _ _ _ _ _)).trans hE3)
  | some t' =>
    by_cases hn2 : n + 1 ≤ 200
    · simp only [lineN, if_pos hn2]
      repeat' (first
    | ((with_reducible apply opsF.op rfl); (case hs => (first | exact tHT | exact tHS)))
    | with_reducible (first | apply opsF.nil | apply seqF.nn | apply vcF.seq | apply vcF.region | apply vcF.skip | apply vcF.ret | apply seqF.r)
    | ((with_reducible apply opsF.call); (case hx => exact tAG))
    | ((with_reducible apply opsF.want); (case hg => exact tEV); (case hb => exact tNB))
    | ((with_reducible apply opsF.skip); (case hg => exact tEV); (case hb => exact tNB))
    | (first | ((with_reducible apply opsF.case); (case hg => exact tEV)) | ((with_reducible apply vcF.cond); (case hx => exact tEV))) <;> ((intro hc; try simp only [Int.reduceLT, Int.reduceLE, Int.reduceEq, Int.reduceNe, Int.cast_ofNat_Int, Int.reduceNeg, decide_true, decide_false, not_true_eq_false, not_false_eq_true, decide_eq_true_eq, decide_eq_false_iff_not, Bool.not_eq_true', Bool.not_eq_false', Bool.not_true, Bool.not_false, Bool.false_eq_true, Bool.true_eq_false, Bool.not_eq_true, Bool.not_eq_false, beq_iff_eq, beq_eq_false_iff_ne, bne_iff_ne, bne_eq_false_iff_eq, ne_eq, Int.not_lt, Int.not_le, ge_iff_le, gt_iff_lt, Decidable.not_not, reduceCtorEq, *] at hc) <;> (try (exfalso; omega)))
    | ((with_reducible apply opsF.und); (case hg => rfl))
    | ((with_reducible apply opsF.callv); (case hf => exact tEV); (case hx => exact tCV))
    | ((with_reducible apply retF.r); (case hv => exact tRS))
    | ((with_reducible apply retF.nn); (case hv => exact tRS))
    | ((with_reducible apply opsF.op rfl); (case hs => ((with_reducible apply is_upd); (case hm => exact tEV); (case hk => exact tEV); (case hx => exact tEV); (case ho => exact tHE); (case hf => kernel_rfl); (case he => (simp only [List.nil_append, List.cons_append]; rfl)))))
    | ((with_reducible apply opsF.op rfl); (case hs => ((with_reducible apply is_look); (case hx => exact tEV); (case hk => exact tEV); (case ho => exact tHE); (case hf => exact hf))))
    | ((refine (hspl _).mono fun v h1 hq => ?_); obtain ⟨rfl, he⟩ := hq; have hN := he.n; have hO := he.objs; (try simp only [alloc_n, set_n, newTok_n, bump_n] at hN hO); have EXm : ∀ o0 o1 o2 o3 o4 : AObj, Ext h (((((h1.alloc o0).set h1.n o1).set h1.n o2).set h1.n o3).set h1.n o4) := fun o0 o1 o2 o3 o4 => ((((he.trans (Ext.alloc _ _)).set he.n _).set he.n _).set he.n _).set he.n _)
    | ((refine (hm _ _ (hT.num (EXm _ _ _ _ _))).mono fun v h3 hq => ?_); obtain ⟨rfl, hE3, hS3⟩ := hq; obtain ⟨u1, u2, u3, hT3⟩ := hS3 t' rfl; have hob3 := hT3.ob; unfold tabC nR at hob3))
      refine ⟨?_, (hXS _ _ (EXm _ _ _ _ _)).trans hE3, fun t2 n2 h => by cases h; exact ⟨u1, u2, u3, hT3⟩⟩
      simp only [Option.isSome_some]
      congr 3
      first | exact decide_eq_true (by omega) | rfl
    · simp only [lineN, if_neg hn2]
      repeat' (first
    | ((with_reducible apply opsF.op rfl); (case hs => (first | exact tHT | exact tHS)))
    | with_reducible (first | apply opsF.nil | apply seqF.nn | apply vcF.seq | apply vcF.region | apply vcF.skip | apply vcF.ret | apply seqF.r)
    | ((with_reducible apply opsF.call); (case hx => exact tAG))
    | ((with_reducible apply opsF.want); (case hg => exact tEV); (case hb => exact tNB))
    | ((with_reducible apply opsF.skip); (case hg => exact tEV); (case hb => exact tNB))
    | (first | ((with_reducible apply opsF.case); (case hg => exact tEV)) | ((with_reducible apply vcF.cond); (case hx => exact tEV))) <;> ((intro hc; try simp only [Int.reduceLT, Int.reduceLE, Int.reduceEq, Int.reduceNe, Int.cast_ofNat_Int, Int.reduceNeg, decide_true, decide_false, not_true_eq_false, not_false_eq_true, decide_eq_true_eq, decide_eq_false_iff_not, Bool.not_eq_true', Bool.not_eq_false', Bool.not_true, Bool.not_false, Bool.false_eq_true, Bool.true_eq_false, Bool.not_eq_true, Bool.not_eq_false, beq_iff_eq, beq_eq_false_iff_ne, bne_iff_ne, bne_eq_false_iff_eq, ne_eq, Int.not_lt, Int.not_le, ge_iff_le, gt_iff_lt, Decidable.not_not, reduceCtorEq, *] at hc) <;> (try (exfalso; omega)))
    | ((with_reducible apply opsF.und); (case hg => rfl))
    | ((with_reducible apply opsF.callv); (case hf => exact tEV); (case hx => exact tCV))
    | ((with_reducible apply retF.r); (case hv => exact tRS))
    | ((with_reducible apply retF.nn); (case hv => exact tRS))
    | ((with_reducible apply opsF.op rfl); (case hs => ((with_reducible apply is_upd); (case hm => exact tEV); (case hk => exact tEV); (case hx => exact tEV); (case ho => exact tHE); (case hf => kernel_rfl); (case he => (simp only [List.nil_append, List.cons_append]; rfl)))))
    | ((with_reducible apply opsF.op rfl); (case hs => ((with_reducible apply is_look); (case hx => exact tEV); (case hk => exact tEV); (case ho => exact tHE); (case hf => exact hf))))
    | ((refine (hspl _).mono fun v h1 hq => ?_); obtain ⟨rfl, he⟩ := hq; have hN := he.n; have hO := he.objs; (try simp only [alloc_n, set_n, newTok_n, bump_n] at hN hO); have EXm : ∀ o0 o1 o2 o3 o4 : AObj, Ext h (((((h1.alloc o0).set h1.n o1).set h1.n o2).set h1.n o3).set h1.n o4) := fun o0 o1 o2 o3 o4 => ((((he.trans (Ext.alloc _ _)).set he.n _).set he.n _).set he.n _).set he.n _)
    | ((refine (hm _ _ (hT.num (EXm _ _ _ _ _))).mono fun v h3 hq => ?_); obtain ⟨rfl, hE3, hS3⟩ := hq; obtain ⟨u1, u2, u3, hT3⟩ := hS3 t' rfl; have hob3 := hT3.ob; unfold tabC nR at hob3))
      all_goals first | rw [decide_eq_false (by omega)] | skip
      all_goals exact lineP_none ((hXS _ _ (EXm _ _ _ _ _)).trans hE3)
theorem line_call (hP : PowTab w0) (hEv : ErrVars w0) (B : Nat) (id : Nat) (t : TB) (n : Nat) (t1 t2 t3 : Tok) (l : List UInt8) (h : AH) (hT : TS B h id t (nR n) t1 t2 t3) (hl : l.length ≤ 100000) (hn : n ≤ 1000) (hb : t.1.length ≤ 1000 ∧ t.2.1.length ≤ 1000 ∧ t.2.2.1.length ≤ 1000) :
    Call P w0 table_parser_line [.ptr id 0, .v (.string (bs l))] h (LineP B h id (lineO l t n)) := by
  obtain ⟨hb1, hb2, hb3⟩ := hb
  cases hsk : skipB l with
  | true =>
    have hlo : lineO l t n = some (t, n) := by rw [lineO, hsk]; rfl
    rw [hlo]
    refine Call.bodyF b_table_parser_line rfl rfl ?_
    unfold c_table_parser_line
    have fin : LineP B h id (some (t, n)) (.v (.bool true)) h := ⟨rfl, .of (.refl _), fun t' n' e => by cases e; exact ⟨t1, t2, t3, hT⟩⟩
    cases l with
    | nil =>
      repeat' (first
    | ((with_reducible apply opsF.op rfl); (case hs => (first | exact tHT | exact tHS)))
    | with_reducible (first | apply opsF.nil | apply seqF.nn | apply vcF.seq | apply vcF.region | apply vcF.skip | apply vcF.ret | apply seqF.r)
    | ((with_reducible apply opsF.call); (case hx => exact tAG))
    | ((with_reducible apply opsF.want); (case hg => exact tEV); (case hb => exact tNB))
    | ((with_reducible apply opsF.skip); (case hg => exact tEV); (case hb => exact tNB))
    | (first | ((with_reducible apply opsF.case); (case hg => exact tEV)) | ((with_reducible apply vcF.cond); (case hx => exact tEV))) <;> ((intro hc; try simp only [Int.reduceLT, Int.reduceLE, Int.reduceEq, Int.reduceNe, Int.cast_ofNat_Int, Int.reduceNeg, decide_true, decide_false, not_true_eq_false, not_false_eq_true, decide_eq_true_eq, decide_eq_false_iff_not, Bool.not_eq_true', Bool.not_eq_false', Bool.not_true, Bool.not_false, Bool.false_eq_true, Bool.true_eq_false, Bool.not_eq_true, Bool.not_eq_false, beq_iff_eq, beq_eq_false_iff_ne, bne_iff_ne, bne_eq_false_iff_eq, ne_eq, Int.not_lt, Int.not_le, ge_iff_le, gt_iff_lt, Decidable.not_not, reduceCtorEq, *] at hc) <;> (try (exfalso; omega)))
    | ((with_reducible apply opsF.und); (case hg => rfl))
    | ((with_reducible apply opsF.callv); (case hf => exact tEV); (case hx => exact tCV))
    | ((with_reducible apply retF.r); (case hv => exact tRS))
    | ((with_reducible apply retF.nn); (case hv => exact tRS)))
      all_goals exact fin
    | cons c l' =>
      have hc : c = 35 := by simpa [skipB] using hsk
      subst hc
      have hl0 : (35 :: l')[0]? = some (35 : UInt8) := rfl
      have hne : ¬ ((35 : UInt8) :: l') = [] := by simp
      have e35 : ((35 : UInt8).toNat : Int) = 35 := rfl
      generalize ((35 : UInt8) :: l') = L at *
      repeat' (first
    | ((with_reducible apply opsF.op rfl); (case hs => (first | exact tHT | exact tHS)))
    | with_reducible (first | apply opsF.nil | apply seqF.nn | apply vcF.seq | apply vcF.region | apply vcF.skip | apply vcF.ret | apply seqF.r)
    | ((with_reducible apply opsF.call); (case hx => exact tAG))
    | ((with_reducible apply opsF.want); (case hg => exact tEV); (case hb => exact tNB))
    | ((with_reducible apply opsF.skip); (case hg => exact tEV); (case hb => exact tNB))
    | (first | ((with_reducible apply opsF.case); (case hg => exact tEV)) | ((with_reducible apply vcF.cond); (case hx => exact tEV))) <;> ((intro hc; try simp only [Int.reduceLT, Int.reduceLE, Int.reduceEq, Int.reduceNe, Int.cast_ofNat_Int, Int.reduceNeg, decide_true, decide_false, not_true_eq_false, not_false_eq_true, decide_eq_true_eq, decide_eq_false_iff_not, Bool.not_eq_true', Bool.not_eq_false', Bool.not_true, Bool.not_false, Bool.false_eq_true, Bool.true_eq_false, Bool.not_eq_true, Bool.not_eq_false, beq_iff_eq, beq_eq_false_iff_ne, bne_iff_ne, bne_eq_false_iff_eq, ne_eq, Int.not_lt, Int.not_le, ge_iff_le, gt_iff_lt, Decidable.not_not, reduceCtorEq, *] at hc) <;> (try (exfalso; omega)))
    | ((with_reducible apply opsF.und); (case hg => rfl))
    | ((with_reducible apply opsF.callv); (case hf => exact tEV); (case hx => exact tCV))
    | ((with_reducible apply retF.r); (case hv => exact tRS))
    | ((with_reducible apply retF.nn); (case hv => exact tRS)))
      all_goals exact fin
  | false =>
    have hlo : lineO l t n = lineN n (entryO t (splB 32 l)) := by rw [lineO, hsk]; rfl
    rw [hlo]
    have hne := splB_ne 32 l
    have hsl := splB_len (c := 32) l.length (Nat.le_refl _)
    have hwm : ∀ w ∈ splB 32 l, w.length ≤ 1000000 := fun w hw => by
      have := splB_mem l.length (Nat.le_refl _) hw
      omega
    cases hsp : splB 32 l with
    | nil => exact absurd hsp hne
    | cons w ws =>
      rw [hsp] at hsl hwm
      simp only [List.length_cons] at hsl
      have hwm2 : ∀ x ∈ ws, x.length ≤ 1000000 := fun x hx => hwm x (by simp [hx])
      by_cases k1 : w = [97, 108, 105, 97, 115]
      · refine line_way table_parser_alias B id t n t1 t2 t3 l w ws _ h hT hl hn hsk hsp 0 (by rw [ways, findK_cons, if_pos k1]) fun h2 tk hT2 => ?_
        rw [entryO, if_pos k1]
        exact alias_call B id t _ t1 t2 t3 ws tk h2 hT2 hwm2 (by omega) (by omega)
      by_cases k2 : w = [104, 111, 112]
      · refine line_way table_parser_hop B id t n t1 t2 t3 l w ws _ h hT hl hn hsk hsp 1 (by rw [ways, findK_cons, if_neg k1, findK_cons, if_pos k2]) fun h2 tk hT2 => ?_
        rw [entryO, if_neg k1, if_pos k2]
        exact hop_call B id t _ t1 t2 t3 ws tk h2 hT2 hwm2 (by omega) (by omega)
      by_cases k3 : w = [98, 97, 110]
      · refine line_way table_parser_ban B id t n t1 t2 t3 l w ws _ h hT hl hn hsk hsp 2 (by rw [ways, findK_cons, if_neg k1, findK_cons, if_neg k2, findK_cons, if_pos k3]) fun h2 tk hT2 => ?_
        rw [entryO, if_neg k1, if_neg k2, if_pos k3]
        exact ban_call B id t _ t1 t2 t3 ws tk h2 hT2 hwm2 (by omega) (by omega)
      by_cases k4 : w = [115, 105, 122, 101]
      · refine line_way table_parser_size B id t n t1 t2 t3 l w ws _ h hT hl hn hsk hsp 3 (by rw [ways, findK_cons, if_neg k1, findK_cons, if_neg k2, findK_cons, if_neg k3, findK_cons, if_pos k4]) fun h2 tk hT2 => ?_
        rw [entryO, if_neg k1, if_neg k2, if_neg k3, if_pos k4]
        exact size_call hP hEv B id t _ t1 t2 t3 ws tk h2 hT2 hwm2 (by omega)
      have hf : findK .str (.string (bs w)) (ways id) 0 = some none := by rw [ways, findK_cons, if_neg k1, findK_cons, if_neg k2, findK_cons, if_neg k3, findK_cons, if_neg k4]; rfl
      rw [entryO, if_neg k1, if_neg k2, if_neg k3, if_neg k4]
      clear k1 k2 k3 k4
      have xl := srows_len
      have xg := srows_get
      have hob := hT.ob
      have hlt := hT.lt
      have hspl := fun h => spl_call (w0 := w0) l 32 h (by omega)
      rw [hsp] at hspl
      have h0 : (w :: ws)[0]? = some w := rfl
      have hd1 : (srows (w :: ws)).drop 1 = srows ws := rfl
      have hln : (w :: ws).length = ws.length + 1 := rfl
      obtain ⟨c, l', rfl⟩ : ∃ c l', l = c :: l' := by
        cases l with
        | nil => simp [skipB] at hsk
        | cons c l' => exact ⟨c, l', rfl⟩
      have hc : ¬ (c.toNat : Int) = 35 := by
        intro e
        have : c = 35 := UInt8.toNat_inj.1 (by simpa using (by omega : c.toNat = 35))
        subst this
        simp [skipB] at hsk
      have hl0 : (c :: l')[0]? = some c := rfl
      have hne2 : ¬ (c :: l') = [] := by simp
      unfold tabC nR at hob
      unfold ways at hf
      refine Call.bodyF b_table_parser_line rfl rfl ?_
      unfold c_table_parser_line
      clear hwm hwm2 hne
      generalize w :: ws = W at *
      generalize c :: l' = L at *
      have hXS : ∀ (h2 : AH) (o5 : AObj), Ext h h2 → ExtI B id h (h2.set id o5) := fun h2 o5 e => ExtX.set (I := fun i => i = id) (i := id) (.of e) (.inl rfl) _
      repeat' (first
    | ((with_reducible apply opsF.op rfl); (case hs => (first | exact tHT | exact tHS)))
    | with_reducible (first | apply opsF.nil | apply seqF.nn | apply vcF.seq | apply vcF.region | apply vcF.skip | apply vcF.ret | apply seqF.r)
    | ((with_reducible apply opsF.call); (case hx => exact tAG))
    | ((with_reducible apply opsF.want); (case hg => exact tEV); (case hb => exact tNB))
    | ((with_reducible apply opsF.skip); (case hg => exact tEV); (case hb => exact tNB))
    | (first | ((with_reducible apply opsF.case); (case hg => exact tEV)) | ((with_reducible apply vcF.cond); (case hx => exact tEV))) <;> ((intro hc; try simp only [Int.reduceLT, Int.reduceLE, Int.reduceEq, Int.reduceNe, Int.cast_ofNat_Int, Int.reduceNeg, decide_true, decide_false, not_true_eq_false, not_false_eq_true, decide_eq_true_eq, decide_eq_false_iff_not, Bool.not_eq_true', Bool.not_eq_false', Bool.not_true, Bool.not_false, Bool.false_eq_true, Bool.true_eq_false, Bool.not_eq_true, Bool.not_eq_false, beq_iff_eq, beq_eq_false_iff_ne, bne_iff_ne, bne_eq_false_iff_eq, ne_eq, Int.not_lt, Int.not_le, ge_iff_le, gt_iff_lt, Decidable.not_not, reduceCtorEq, *] at hc) <;> (try (exfalso; omega)))
    | ((with_reducible apply opsF.und); (case hg => rfl))
    | ((with_reducible apply opsF.callv); (case hf => exact tEV); (case hx => exact tCV))
    | ((with_reducible apply retF.r); (case hv => exact tRS))
    | ((with_reducible apply retF.nn); (case hv => exact tRS))
    | ((with_reducible apply opsF.op rfl); (case hs => ((with_reducible apply is_upd); (case hm => exact tEV); (case hk => exact tEV); (case hx => exact tEV); (case ho => exact tHE); (case hf => kernel_rfl); (case he => (simp only [List.nil_append, List.cons_append]; rfl)))))
    | ((with_reducible apply opsF.op rfl); (case hs => ((with_reducible apply is_look0); (case hx => exact tEV); (case hk => exact tEV); (case ho => exact tHE); (case hf => exact hf))))
    | ((refine (hspl _).mono fun v h1 hq => ?_); obtain ⟨rfl, he⟩ := hq; have hN := he.n; have hO := he.objs; (try simp only [alloc_n, set_n, newTok_n, bump_n] at hN hO); have EXm : ∀ o0 o1 o2 o3 o4 : AObj, Ext h (((((h1.alloc o0).set h1.n o1).set h1.n o2).set h1.n o3).set h1.n o4) := fun o0 o1 o2 o3 o4 => ((((he.trans (Ext.alloc _ _)).set he.n _).set he.n _).set he.n _).set he.n _))
      all_goals exact lineP_none (hXS _ _ (EXm _ _ _ _ _))
end Go.Abs.F
