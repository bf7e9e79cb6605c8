/- Tables: what texts, words and tables are, in plain lists; searches. -/
import Derived.Test.YtbakofbljfhoiaaDoorAdrC
import Derived.Test.YtbakofbljfhoiaaDoorWk
import Derived.Test.YtbakofbljfhoiaaDoorFn1
namespace Go.Abs.F
open Go Go.Abs
set_option maxRecDepth 10000
set_option maxHeartbeats 20000000
set_option linter.unusedSimpArgs false
set_option linter.unusedVariables false
variable {w0 : World}
theorem Call.pure {f : FuncId} {args : List AV} {h : AH} {x : AV} (hp : Plain x) (hc : Call P w0 f args h fun v h' => v = x ∧ Ext h h') : Call P w0 f args h fun v h' => v = x ∧ h' = h :=
  hc.gc fun v h' hq => ⟨hq.1 ▸ hp, hq.2, hq.1⟩
theorem optV_plain (o : Option (List UInt8)) : Plain (optV o) := by
  cases o <;> exact Plain.tupv fun x hx => by
    simp only [List.mem_cons, List.not_mem_nil, or_false] at hx
    rcases hx with rfl | rfl <;> exact .v _
theorem low_p (s : List UInt8) (h : AH) (hl : s.length ≤ 1000000000) : Call P w0 addr_Lower [.v (.string (bs s))] h (fun v h' => v = .v (.string (bs (lowerS s))) ∧ h' = h) := Call.pure (.v _) (lower_call s h (by omega))
theorem dom_p (s : List UInt8) (h : AH) (hl : s.length ≤ 1000000000) : Call P w0 addr_Domain [.v (.string (bs s))] h (fun v h' => v = .v (.bool (domainS s)) ∧ h' = h) := Call.pure (.v _) (domain_call s h hl)
theorem canon_p (s : List UInt8) (h : AH) (hl : s.length ≤ 1000000000) : Call P w0 addr_Canon [.v (.string (bs s))] h (fun v h' => v = optV (canonO s) ∧ h' = h) := Call.pure (optV_plain _) (canon_call s h hl)
theorem rlow_p (s : List UInt8) (h : AH) (hl : s.length ≤ 1000000000) : Call P w0 ref01_Lower [.v (.string (bs s))] h (fun v h' => v = .v (.string (bs (lowerS s))) ∧ h' = h) := Call.pure (.v _) (rlower_call s h (by omega))
theorem rdom_p (s : List UInt8) (h : AH) (hl : s.length ≤ 1000000000) : Call P w0 ref01_Domain [.v (.string (bs s))] h (fun v h' => v = .v (.bool (domainS s)) ∧ h' = h) := Call.pure (.v _) (rdomain_call s h (by omega))
theorem rcanon_p (s : List UInt8) (h : AH) (hl : s.length ≤ 1000000000) : Call P w0 ref01_Canon [.v (.string (bs s))] h (fun v h' => v = optV (canonO s) ∧ h' = h) := Call.pure (optV_plain _) (rcanon_call s h (by omega))
abbrev AliasT := List UInt8 × List (List UInt8)
abbrev TB := List AliasT × List (List UInt8 × List UInt8) × List (Bool × List UInt8) × Int
def zeroT : TB := ([], [], [], 0)
/-- All of them in small letters, if all are mailboxes. -/
def canonsO : List (List UInt8) → Option (List (List UInt8))
  | [] => some []
  | w :: ws => match canonO w, canonsO ws with
    | some c, some cs => some (c :: cs)
    | _, _ => none
def aliasO (t : TB) (ws : List (List UInt8)) : Option TB := match canonsO ws with
  | some (a :: b :: r) => if t.1.any (fun x => decide (x.1 = a)) then none else some (t.1 ++ [(a, b :: r)], t.2)
  | _ => none
def hopD (w : List UInt8) : List UInt8 := if w = [42] then [42] else lowerS w
def hopO (t : TB) : List (List UInt8) → Option TB
  | [a, b] => if (decide (a = [42]) || domainS a) && domainS b && !(t.2.1.any fun x => decide (x.1 = hopD a)) then some (t.1, t.2.1 ++ [(hopD a, lowerS b)], t.2.2) else none
  | _ => none
def banN (w : List UInt8) : Option (List UInt8) := if w.contains 64 then canonO w else if domainS w then some (lowerS w) else none
def banO (t : TB) : List (List UInt8) → Option TB
  | [a, b] => if a = [102, 114, 111, 109] ∨ a = [116, 111] then (banN b).map fun n => (t.1, t.2.1, t.2.2.1 ++ [(decide (a = [102, 114, 111, 109]), n)], t.2.2.2) else none
  | _ => none
def sizeN (w : List UInt8) : Option Int := match Lib.atoiAll w with
  | .ok n => if decS n = w ∧ 1 ≤ n ∧ n ≤ 65536 then some n else none
  | _ => none
def sizeO (t : TB) : List (List UInt8) → Option TB
  | [w] => if t.2.2.2 > 0 then none else (sizeN w).map fun n => (t.1, t.2.1, t.2.2.1, n)
  | _ => none
def entryO (t : TB) : List (List UInt8) → Option TB
  | [] => none
  | k :: ws => if k = [97, 108, 105, 97, 115] then aliasO t ws else if k = [104, 111, 112] then hopO t ws else if k = [98, 97, 110] then banO t ws else if k = [115, 105, 122, 101] then sizeO t ws else none
def skipB (l : List UInt8) : Bool := l.isEmpty || decide (l.head? = some 35)
/-- The lines of a text. -/
def linesS (s : List UInt8) : List (List UInt8) := if (splB 10 s).getLast? = some [] then (splB 10 s).dropLast else splB 10 s
/-- The lines, from one on; what there is ahead: the tables, how many lines, how many entries. -/
def tparse : List (List UInt8) → Nat → Nat → TB → TB × Nat × Nat
  | [], _, _, t => (t, 0, 0)
  | l :: ls, k, n, t => if skipB l then tparse ls (k + 1) n t else match entryO t (splB 32 l) with
    | some t' => if n + 1 ≤ 200 then tparse ls (k + 1) (n + 1) t' else (zeroT, k + 1, 7)
    | none => (zeroT, k + 1, 7)
def tableS (s : List UInt8) : TB × Nat × Nat := if s.length > 16384 then (zeroT, 0, 9) else tparse (linesS s) 0 0 zeroT
/-! as values -/
def arow (a : AliasT) : List AV := [.v (.string (bs a.1)), .list 1 (srows a.2) .no]
def hrow (a : List UInt8 × List UInt8) : List AV := [.v (.string (bs a.1)), .v (.string (bs a.2))]
def brow (a : Bool × List UInt8) : List AV := [.v (.bool a.1), .v (.string (bs a.2))]
def tabC (t : TB) (t1 t2 t3 : Tok) : List AV := [.list 2 (t.1.map arow) t1, .list 2 (t.2.1.map hrow) t2, .list 2 (t.2.2.1.map brow) t3, .v (.int .i64 t.2.2.2)]
/-! searches -/
theorem idxfG {f : FuncId} (hb : HasBody P f 19 c_slices_IndexFunc_api_Alias_api_Alias [.tmp 4]) (fn : FuncId) (caps : List AV) {α : Type} (g : α → List AV) (p : α → Bool) (l : List α) (tok : Tok) (h : AH) (hs : ∀ x ∈ l, (g x).length = 2)
    (hp : ∀ x ∈ l, Call P w0 fn (.agg (g x) :: caps) h fun v h' => v = .v (.bool (p x)) ∧ h' = h) (hl : l.length ≤ 1000000000000) :
    Call P w0 f [.list 2 (l.map g) tok, .func (.func fn) [] caps] h (fun v h' => (∃ n : Int, v = .v (.int .i64 n) ∧ decide (0 ≤ n) = l.any p) ∧ h' = h) := by
  refine Call.bodyF hb rfl rfl ?_
  unfold c_slices_IndexFunc_api_Alias_api_Alias
  have hlg : (l.map g).length = l.length := List.length_map ..
  obtain ⟨rows, hrows⟩ : ∃ rows, rows = l.map g := ⟨_, rfl⟩
  rw [← hrows] at hlg ⊢
  repeat' (first
    | ((with_reducible apply opsF.op rfl); (case hs => (first | exact tHT | exact tHS)))
    | with_reducible (first | apply opsF.nil | apply seqF.nn | apply vcF.seq | apply vcF.region | apply vcF.skip | apply vcF.block | apply vcF.exit | apply vcF.ret | apply vcF.loop | apply seqF.e | apply seqF.r | apply blkF.nn | apply blkF.e | apply blkF.r | apply blkF.o rfl)
    | ((with_reducible apply opsF.call); (case hx => exact tAG))
    | (first | ((with_reducible apply vcF.cond); (case hx => exact tEV))) <;> ((intro hc; try simp only [Int.reduceLT, Int.reduceLE, Int.reduceEq, Int.reduceNe, Int.cast_ofNat_Int, Int.reduceNeg, decide_true, decide_false, not_true_eq_false, not_false_eq_true, decide_eq_true_eq, decide_eq_false_iff_not, Bool.not_eq_true', Bool.not_eq_false', Bool.not_true, Bool.not_false, Bool.false_eq_true, Bool.true_eq_false, Bool.not_eq_true, Bool.not_eq_false, beq_iff_eq, beq_eq_false_iff_ne, bne_iff_ne, bne_eq_false_iff_eq, ne_eq, Int.not_lt, Int.not_le, ge_iff_le, gt_iff_lt, Decidable.not_not, reduceCtorEq, *] at hc) <;> (try (exfalso; omega)))
    | ((with_reducible apply opsF.callv); (case hf => exact tEV); (case hx => exact tCV))
    | ((with_reducible apply retF.r); (case hv => exact tRS))
    | ((with_reducible apply retF.nn); (case hv => exact tRS)))
  refine LpF.ind rfl (fun i : Nat => l.length - i) (fun i σ h' => h' = h ∧ σ 0 = .list 2 rows tok ∧ σ 1 = .func (.func fn) [] caps ∧ σ 7 = .v (.int .i64 (l.length : Nat)) ∧ σ 8 = .v (.int .i64 (i : Nat)) ∧ i ≤ l.length ∧ (l.take i).any p = false) ?_ (i := 0) ⟨rfl, rfl, rfl, by rw [← hlg]; rfl, rfl, Nat.zero_le _, rfl⟩
  rintro i σ h' ⟨rfl, h0, h1, h7, h8, hi, ha⟩
  rcases Nat.lt_or_ge i l.length with hlt | hge
  · obtain ⟨x, hx⟩ : ∃ x, l[i]? = some x := ⟨_, List.getElem?_eq_getElem hlt⟩
    have hpx := hp x (List.mem_of_getElem? hx)
    have hxl := hs x (List.mem_of_getElem? hx)
    have hxr : rows[i]? = some (g x) := by rw [hrows, List.getElem?_map, hx]; rfl
    have hrd : rd (g x) 0 (some 2) = some (.agg (g x)) := by
      simp only [rd, hxl, List.drop_zero]
      rw [if_pos (by omega), ← hxl, List.take_length]
    clear hrows hxl hs hp
    cases hb : p x with
    | true =>
      have hf := any_get hx hb
      rw [hf]
      rw [hb] at hpx
      clear hx
      repeat' (first
    | ((with_reducible apply opsF.op rfl); (case hs => (first | exact tHT | exact tHS)))
    | with_reducible (first | apply opsF.nil | apply seqF.nn | apply vcF.seq | apply vcF.region | apply vcF.skip | apply vcF.block | apply vcF.exit | apply vcF.ret | apply vcF.loop | apply seqF.e | apply seqF.r | apply blkF.nn | apply blkF.e | apply blkF.r | apply blkF.o rfl)
    | ((with_reducible apply opsF.call); (case hx => exact tAG))
    | (first | ((with_reducible apply vcF.cond); (case hx => exact tEV))) <;> ((intro hc; try simp only [Int.reduceLT, Int.reduceLE, Int.reduceEq, Int.reduceNe, Int.cast_ofNat_Int, Int.reduceNeg, decide_true, decide_false, not_true_eq_false, not_false_eq_true, decide_eq_true_eq, decide_eq_false_iff_not, Bool.not_eq_true', Bool.not_eq_false', Bool.not_true, Bool.not_false, Bool.false_eq_true, Bool.true_eq_false, Bool.not_eq_true, Bool.not_eq_false, beq_iff_eq, beq_eq_false_iff_ne, bne_iff_ne, bne_eq_false_iff_eq, ne_eq, Int.not_lt, Int.not_le, ge_iff_le, gt_iff_lt, Decidable.not_not, reduceCtorEq, *] at hc) <;> (try (exfalso; omega)))
    | ((with_reducible apply opsF.callv); (case hf => exact tEV); (case hx => exact tCV))
    | ((with_reducible apply retF.r); (case hv => exact tRS))
    | ((with_reducible apply retF.nn); (case hv => exact tRS))
    | ((with_reducible apply opsF.op rfl); (case hs => ((with_reducible apply is_loadl); (case hx => exact tEV); (case hv => exact hrd))))
    | ((refine Call.use hpx ?_)))
      all_goals exact ⟨⟨_, rfl, by simp⟩, rfl⟩
    | false =>
      rw [hb] at hpx
      have hx' := hx
      clear hx
      repeat' (first
    | ((with_reducible apply opsF.op rfl); (case hs => (first | exact tHT | exact tHS)))
    | with_reducible (first | apply opsF.nil | apply seqF.nn | apply vcF.seq | apply vcF.region | apply vcF.skip | apply vcF.block | apply vcF.exit | apply vcF.ret | apply vcF.loop | apply seqF.e | apply seqF.r | apply blkF.nn | apply blkF.e | apply blkF.r | apply blkF.o rfl)
    | ((with_reducible apply opsF.call); (case hx => exact tAG))
    | (first | ((with_reducible apply vcF.cond); (case hx => exact tEV))) <;> ((intro hc; try simp only [Int.reduceLT, Int.reduceLE, Int.reduceEq, Int.reduceNe, Int.cast_ofNat_Int, Int.reduceNeg, decide_true, decide_false, not_true_eq_false, not_false_eq_true, decide_eq_true_eq, decide_eq_false_iff_not, Bool.not_eq_true', Bool.not_eq_false', Bool.not_true, Bool.not_false, Bool.false_eq_true, Bool.true_eq_false, Bool.not_eq_true, Bool.not_eq_false, beq_iff_eq, beq_eq_false_iff_ne, bne_iff_ne, bne_eq_false_iff_eq, ne_eq, Int.not_lt, Int.not_le, ge_iff_le, gt_iff_lt, Decidable.not_not, reduceCtorEq, *] at hc) <;> (try (exfalso; omega)))
    | ((with_reducible apply opsF.callv); (case hf => exact tEV); (case hx => exact tCV))
    | ((with_reducible apply retF.r); (case hv => exact tRS))
    | ((with_reducible apply retF.nn); (case hv => exact tRS))
    | ((with_reducible apply opsF.op rfl); (case hs => ((with_reducible apply is_loadl); (case hx => exact tEV); (case hv => exact hrd))))
    | ((refine Call.use hpx ?_)))
      refine ⟨i + 1, by omega, rfl, h0, h1, h7, rfl, by omega, ?_⟩
      rw [List.take_add_one, hx', List.any_append, ha]
      simp [hb]
  · obtain rfl : i = l.length := by omega
    rw [List.take_length] at ha
    rw [ha]
    clear hrows
    repeat' (first
    | ((with_reducible apply opsF.op rfl); (case hs => (first | exact tHT | exact tHS)))
    | with_reducible (first | apply opsF.nil | apply seqF.nn | apply vcF.seq | apply vcF.region | apply vcF.skip | apply vcF.block | apply vcF.exit | apply vcF.ret | apply vcF.loop | apply seqF.e | apply seqF.r | apply blkF.nn | apply blkF.e | apply blkF.r | apply blkF.o rfl)
    | ((with_reducible apply opsF.call); (case hx => exact tAG))
    | (first | ((with_reducible apply vcF.cond); (case hx => exact tEV))) <;> ((intro hc; try simp only [Int.reduceLT, Int.reduceLE, Int.reduceEq, Int.reduceNe, Int.cast_ofNat_Int, Int.reduceNeg, decide_true, decide_false, not_true_eq_false, not_false_eq_true, decide_eq_true_eq, decide_eq_false_iff_not, Bool.not_eq_true', Bool.not_eq_false', Bool.not_true, Bool.not_false, Bool.false_eq_true, Bool.true_eq_false, Bool.not_eq_true, Bool.not_eq_false, beq_iff_eq, beq_eq_false_iff_ne, bne_iff_ne, bne_eq_false_iff_eq, ne_eq, Int.not_lt, Int.not_le, ge_iff_le, gt_iff_lt, Decidable.not_not, reduceCtorEq, *] at hc) <;> (try (exfalso; omega)))
    | ((with_reducible apply opsF.callv); (case hf => exact tEV); (case hx => exact tCV))
    | ((with_reducible apply retF.r); (case hv => exact tRS))
    | ((with_reducible apply retF.nn); (case hv => exact tRS)))
    exact ⟨⟨_, rfl, by simp⟩, rfl⟩
theorem confA (fn : FuncId) (caps : List AV) {α : Type} (g : α → List AV) (p : α → Bool) (l : List α) (tok : Tok) (h : AH) (hs : ∀ x ∈ l, (g x).length = 2)
    (hp : ∀ x ∈ l, Call P w0 fn (.agg (g x) :: caps) h fun v h' => v = .v (.bool (p x)) ∧ h' = h) (hl : l.length ≤ 1000000000000) :
    Call P w0 slices_ContainsFunc_api_Alias_api_Alias [.list 2 (l.map g) tok, .func (.func fn) [] caps] h (fun v h' => v = .v (.bool (l.any p)) ∧ h' = h) := by
  refine Call.bodyF b_slices_ContainsFunc_api_Alias_api_Alias rfl rfl ?_
  unfold c_slices_ContainsFunc_api_Alias_api_Alias
  repeat' (first
    | ((with_reducible apply opsF.op rfl); (case hs => (first | exact tHT | exact tHS)))
    | with_reducible (first | apply opsF.nil | apply seqF.nn | apply vcF.seq | apply vcF.region | apply vcF.skip | apply vcF.ret | apply seqF.r)
    | ((with_reducible apply opsF.call); (case hx => exact tAG))
    | (first | ((with_reducible apply vcF.cond); (case hx => exact tEV))) <;> ((intro hc; try simp only [Int.reduceLT, Int.reduceLE, Int.reduceEq, Int.reduceNe, Int.cast_ofNat_Int, Int.reduceNeg, decide_true, decide_false, not_true_eq_false, not_false_eq_true, decide_eq_true_eq, decide_eq_false_iff_not, Bool.not_eq_true', Bool.not_eq_false', Bool.not_true, Bool.not_false, Bool.false_eq_true, Bool.true_eq_false, Bool.not_eq_true, Bool.not_eq_false, beq_iff_eq, beq_eq_false_iff_ne, bne_iff_ne, bne_eq_false_iff_eq, ne_eq, Int.not_lt, Int.not_le, ge_iff_le, gt_iff_lt, Decidable.not_not, reduceCtorEq, *] at hc) <;> (try (exfalso; omega)))
    | ((with_reducible apply retF.r); (case hv => exact tRS))
    | ((with_reducible apply retF.nn); (case hv => exact tRS))
    | ((refine (idxfG b_slices_IndexFunc_api_Alias_api_Alias fn caps g p l tok _ hs hp hl).mono fun v h2 hq => ?_); obtain ⟨⟨n, rfl, hn⟩, rfl⟩ := hq))
  exact ⟨rfl, rfl⟩
theorem confH (fn : FuncId) (caps : List AV) {α : Type} (g : α → List AV) (p : α → Bool) (l : List α) (tok : Tok) (h : AH) (hs : ∀ x ∈ l, (g x).length = 2)
    (hp : ∀ x ∈ l, Call P w0 fn (.agg (g x) :: caps) h fun v h' => v = .v (.bool (p x)) ∧ h' = h) (hl : l.length ≤ 1000000000000) :
    Call P w0 slices_ContainsFunc_api_Hop_api_Hop [.list 2 (l.map g) tok, .func (.func fn) [] caps] h (fun v h' => v = .v (.bool (l.any p)) ∧ h' = h) := by
  refine Call.bodyF b_slices_ContainsFunc_api_Hop_api_Hop rfl rfl ?_
  unfold c_slices_ContainsFunc_api_Hop_api_Hop
  repeat' (first
    | ((with_reducible apply opsF.op rfl); (case hs => (first | exact tHT | exact tHS)))
    | with_reducible (first | apply opsF.nil | apply seqF.nn | apply vcF.seq | apply vcF.region | apply vcF.skip | apply vcF.ret | apply seqF.r)
    | ((with_reducible apply opsF.call); (case hx => exact tAG))
    | (first | ((with_reducible apply vcF.cond); (case hx => exact tEV))) <;> ((intro hc; try simp only [Int.reduceLT, Int.reduceLE, Int.reduceEq, Int.reduceNe, Int.cast_ofNat_Int, Int.reduceNeg, decide_true, decide_false, not_true_eq_false, not_false_eq_true, decide_eq_true_eq, decide_eq_false_iff_not, Bool.not_eq_true', Bool.not_eq_false', Bool.not_true, Bool.not_false, Bool.false_eq_true, Bool.true_eq_false, Bool.not_eq_true, Bool.not_eq_false, beq_iff_eq, beq_eq_false_iff_ne, bne_iff_ne, bne_eq_false_iff_eq, ne_eq, Int.not_lt, Int.not_le, ge_iff_le, gt_iff_lt, Decidable.not_not, reduceCtorEq, *] at hc) <;> (try (exfalso; omega)))
    | ((with_reducible apply retF.r); (case hv => exact tRS))
    | ((with_reducible apply retF.nn); (case hv => exact tRS))
    | ((refine (idxfG (f := slices_IndexFunc_api_Hop_api_Hop) b_slices_IndexFunc_api_Hop_api_Hop fn caps g p l tok _ hs hp hl).mono fun v h2 hq => ?_); obtain ⟨⟨n, rfl, hn⟩, rfl⟩ := hq))
  exact ⟨rfl, rfl⟩
theorem doma_p (s : List UInt8) (h : AH) (hl : s.length ≤ 1000000000) : Call P w0 table_domain [.v (.string (bs s))] h (fun v h' => v = .tup [.v (.string (bs (lowerS s))), .v (.bool (domainS s))] ∧ h' = h) := by
  refine Call.bodyF b_table_domain rfl rfl ?_
  unfold c_table_domain
  repeat' (first
    | ((with_reducible apply opsF.op rfl); (case hs => (first | exact tHT | exact tHS)))
    | with_reducible (first | apply opsF.nil | apply seqF.nn | apply vcF.seq | apply vcF.region | apply vcF.skip | apply vcF.ret | apply seqF.r)
    | ((with_reducible apply opsF.call); (case hx => exact tAG))
    | (first | ((with_reducible apply vcF.cond); (case hx => exact tEV))) <;> ((intro hc; try simp only [Int.reduceLT, Int.reduceLE, Int.reduceEq, Int.reduceNe, Int.cast_ofNat_Int, Int.reduceNeg, decide_true, decide_false, not_true_eq_false, not_false_eq_true, decide_eq_true_eq, decide_eq_false_iff_not, Bool.not_eq_true', Bool.not_eq_false', Bool.not_true, Bool.not_false, Bool.false_eq_true, Bool.true_eq_false, Bool.not_eq_true, Bool.not_eq_false, beq_iff_eq, beq_eq_false_iff_ne, bne_iff_ne, bne_eq_false_iff_eq, ne_eq, Int.not_lt, Int.not_le, ge_iff_le, gt_iff_lt, Decidable.not_not, reduceCtorEq, *] at hc) <;> (try (exfalso; omega)))
    | ((with_reducible apply retF.r); (case hv => exact tRS))
    | ((with_reducible apply retF.nn); (case hv => exact tRS))
    | ((refine Call.use (low_p s _ hl) ?_))
    | ((refine Call.use (dom_p s _ hl) ?_)))
  exact ⟨rfl, rfl⟩
/-- The tables of a parser, in its first cells. -/
structure TS (B : Nat) (h : AH) (id : Nat) (t : TB) (rest : List AV) (t1 t2 t3 : Tok) : Prop where
  ob : h.objs id = some (.cells (tabC t t1 t2 t3 ++ rest))
  lt : id < h.n
  nt : B ≤ h.nt
  u1 : TokU h t1
  u2 : TokU h t2
  u3 : TokU h t3
  d12 : ∀ x, t1.owner = some x → t2.owner ≠ some x
  d13 : ∀ x, t1.owner = some x → t3.owner ≠ some x
  d23 : ∀ x, t2.owner = some x → t3.owner ≠ some x
  b1 : ∀ x, t1.owner = some x → B ≤ x
  b2 : ∀ x, t2.owner = some x → B ≤ x
  b3 : ∀ x, t3.owner = some x → B ≤ x
theorem tokU_lt {h : AH} {t : Tok} (u : TokU h t) {x : Nat} (hx : t.owner = some x) : x < h.nt := by
  cases t with
  | no => cases hx
  | full => cases hx
  | own a v => cases hx; exact u.2
/-- All but an object and late tokens stays. -/
abbrev ExtI (B id : Nat) : AH → AH → Prop := ExtX (fun i => i = id) (fun t => B ≤ t)
theorem tokU_keep {h h' : AH} {tk tok : Tok} (k : TokU h tok) (e : ExtX (fun _ => False) (fun t => tk.owner = some t) h h') (d : ∀ x, tk.owner = some x → tok.owner ≠ some x) : TokU h' tok := by
  cases tok with
  | no => exact k
  | full => trivial
  | own t v => exact ⟨k.1.trans (e.ver t k.2 fun e => d t e rfl).symm, Nat.lt_of_lt_of_le k.2 e.nt⟩
theorem aliasC_p (a : AliasT) (l0 : List UInt8) (id : Nat) (tk : Tok) (h : AH) (acc : List (List UInt8)) (ho : h.objs id = some (.cells [.list 1 (srows acc) tk])) (hlt : id < h.n) (hg : acc[0]? = some l0) :
    Call P w0 table_parser_alias_1 [.agg (arow a), .ptr id 0] h (fun v h' => v = .v (.bool (decide (a.1 = l0))) ∧ h' = h) := by
  refine Call.pure (.v _) ?_
  have xg := srows_get
  refine Call.bodyF b_table_parser_alias_1 rfl rfl ?_
  unfold c_table_parser_alias_1 arow
  repeat' (first
    | ((with_reducible apply opsF.op rfl); (case hs => (first | exact tHT | exact tHS)))
    | with_reducible (first | apply opsF.nil | apply seqF.nn | apply vcF.seq | apply vcF.region | apply vcF.skip | apply vcF.ret | apply seqF.r)
    | ((with_reducible apply opsF.call); (case hx => exact tAG))
    | (first | ((with_reducible apply vcF.cond); (case hx => exact tEV))) <;> ((intro hc; try simp only [Int.reduceLT, Int.reduceLE, Int.reduceEq, Int.reduceNe, Int.cast_ofNat_Int, Int.reduceNeg, decide_true, decide_false, not_true_eq_false, not_false_eq_true, decide_eq_true_eq, decide_eq_false_iff_not, Bool.not_eq_true', Bool.not_eq_false', Bool.not_true, Bool.not_false, Bool.false_eq_true, Bool.true_eq_false, Bool.not_eq_true, Bool.not_eq_false, beq_iff_eq, beq_eq_false_iff_ne, bne_iff_ne, bne_eq_false_iff_eq, ne_eq, Int.not_lt, Int.not_le, ge_iff_le, gt_iff_lt, Decidable.not_not, reduceCtorEq, *] at hc) <;> (try (exfalso; omega)))
    | ((with_reducible apply retF.r); (case hv => exact tRS))
    | ((with_reducible apply retF.nn); (case hv => exact tRS)))
  all_goals exact ⟨rfl, Ext.alloc _ _⟩
theorem canonO_len {w c : List UInt8} (h : canonO w = some c) : c.length ≤ w.length + 1 := by
  rw [canonO, splitO] at h
  split at h
  · simp only [Option.map_some, Option.some.injEq] at h
    rename_i hh
    rcases cutB_cases 64 w with ⟨g1, g2⟩ | ⟨a, r, rfl, g2, g3⟩
    · rw [g2] at hh
      simp at hh
    · rw [g3] at h
      rw [← h]
      simp [lowerS]
  · simp at h
/-- What a method of a parser does. -/
def MethP (B : Nat) (h : AH) (id : Nat) (o : Option TB) (rest : List AV) (v : AV) (h' : AH) : Prop :=
  v = .v (.bool o.isSome) ∧ ExtI B id h h' ∧ ∀ t', o = some t' → ∃ t1 t2 t3, TS B h' id t' rest t1 t2 t3
/-- The row that alias adds is known less and less. -/
theorem arows_le (l : List AliasT) (l0 : List UInt8) (r : List (List UInt8)) (tk t1 : Tok) : (AV.list 2 (l.map arow ++ [[.v (.string (bs l0)), .list 1 (srows r) tk]]) t1).le (.list 2 ((l ++ [(l0, r)]).map arow) t1) := by
  refine AV.le.list (by simp) fun i hi hi' => ?_
  simp only [List.map_append, List.map_cons, List.map_nil]
  rcases Nat.lt_or_ge i l.length with h | h
  · rw [List.getElem_append_left (by simpa using h), List.getElem_append_left (by simpa using h)]
    exact .refl _
  · have hi2 : i = l.length := by simp at hi; omega
    subst hi2
    rw [List.getElem_append_right (by simp), List.getElem_append_right (by simp)]
    simp only [List.length_map, Nat.sub_self, List.getElem_cons_zero]
    exact .cons (.refl _) (.one AV.le.noTok)
theorem alias_raw (B : Nat) (id : Nat) (t : TB) (rest : List AV) (t1 t2 t3 : Tok) (ws : List (List UInt8)) (tkw : Tok) (h : AH) (hT : TS B h id t rest t1 t2 t3) (hw : ∀ w ∈ ws, w.length ≤ 1000000) (hl : ws.length ≤ 1000000) (htl : t.1.length ≤ 1000000) :
    Call P w0 table_parser_alias [.ptr id 0, .list 1 (srows ws) tkw] h fun v h' => v = .v (.bool (aliasO t ws).isSome) ∧ ExtI B id h h' ∧ ∀ t', aliasO t ws = some t' → ∃ l0 r tk t1', t' = (t.1 ++ [(l0, r)], t.2) ∧
      h'.objs id = some (.cells (.list 2 (t.1.map arow ++ [[.v (.string (bs l0)), .list 1 (srows r) tk]]) t1' :: ((tabC t t1 t2 t3).tail ++ rest))) ∧ id < h'.n ∧ TokU h' t1' ∧ (∀ x, t1'.owner = some x → t1.owner = some x ∨ h.nt ≤ x) ∧ TokU h' t2 ∧ TokU h' t3 := by
  have xl := srows_len
  have xg := srows_get
  have hob := hT.ob
  have hlt := hT.lt
  refine Call.bodyF b_table_parser_alias rfl rfl ?_
  unfold c_table_parser_alias
  repeat' (first
    | ((with_reducible apply opsF.op rfl); (case hs => (first | exact tHT | exact tHS)))
    | with_reducible (first | apply opsF.nil | apply seqF.nn | apply vcF.seq | apply vcF.region | apply vcF.skip | apply vcF.block | apply vcF.exit | apply vcF.ret | apply vcF.loop | apply seqF.e | apply seqF.r | apply blkF.nn | apply blkF.e | apply blkF.r | apply blkF.o rfl)
    | ((with_reducible apply opsF.call); (case hx => exact tAG))
    | ((with_reducible apply opsF.want); (case hg => exact tEV); (case hb => exact tNB))
    | ((with_reducible apply opsF.skip); (case hg => exact tEV); (case hb => exact tNB))
    | (first | ((with_reducible apply opsF.case); (case hg => exact tEV)) | ((with_reducible apply vcF.cond); (case hx => exact tEV))) <;> ((intro hc; try simp only [Int.reduceLT, Int.reduceLE, Int.reduceEq, Int.reduceNe, Int.cast_ofNat_Int, Int.reduceNeg, decide_true, decide_false, not_true_eq_false, not_false_eq_true, decide_eq_true_eq, decide_eq_false_iff_not, Bool.not_eq_true', Bool.not_eq_false', Bool.not_true, Bool.not_false, Bool.false_eq_true, Bool.true_eq_false, Bool.not_eq_true, Bool.not_eq_false, beq_iff_eq, beq_eq_false_iff_ne, bne_iff_ne, bne_eq_false_iff_eq, ne_eq, Int.not_lt, Int.not_le, ge_iff_le, gt_iff_lt, Decidable.not_not, reduceCtorEq, *] at hc) <;> (try (exfalso; omega)))
    | ((with_reducible apply opsF.und); (case hg => rfl))
    | ((with_reducible apply retF.r); (case hv => exact tRS))
    | ((with_reducible apply retF.nn); (case hv => exact tRS)))
  refine LpF.ind rfl (fun i : Nat => ws.length - i) (fun i σ h' => ∃ (acc : List (List UInt8)) (tok : Tok), i ≤ ws.length ∧ σ 0 = .ptr id 0 ∧ σ 5 = .ptr h.n 0 ∧ σ 10 = .list 1 (srows ws) tkw ∧ σ 11 = .v (.int .i64 (ws.length : Nat)) ∧ σ 12 = .v (.int .i64 (i : Nat)) ∧
    h'.objs h.n = some (.cells [.list 1 (srows acc) tok]) ∧ h.n < h'.n ∧ Ext h h' ∧ TokU h' tok ∧ (∀ x, tok.owner = some x → h.nt ≤ x) ∧ acc.length = i ∧ canonsO ws = (canonsO (ws.drop i)).map (acc ++ ·)) ?_ (i := 0)
    ⟨[], .full, Nat.zero_le _, rfl, rfl, rfl, rfl, rfl, by rw [alloc_at, if_pos rfl]; rfl, by rw [alloc_n]; omega, Ext.alloc _ _, trivial, (fun x hx => by cases hx), rfl, by simp⟩
  rintro i σ h' ⟨acc, tok, hi, h0, h5, h10, h11, h12, hb5, hbl, hE, hTk, hF, hal, hS⟩
  have hob' : h'.objs id = some (.cells (tabC t t1 t2 t3 ++ rest)) := (hE.objs id hlt).trans hob
  rcases Nat.lt_or_ge i ws.length with hlt2 | hge
  · obtain ⟨w, hwi⟩ : ∃ w, ws[i]? = some w := ⟨_, List.getElem?_eq_getElem hlt2⟩
    have hwl := hw w (List.mem_of_getElem? hwi)
    have hca := fun h => canon_p (w0 := w0) w h (by omega)
    have hdw := drop_step hwi
    cases hcn : canonO w with
    | none =>
      rw [hcn] at hca
      have hno : canonsO ws = none := by rw [hS, hdw, canonsO, hcn]; rfl
      have hao : aliasO t ws = none := by rw [aliasO, hno]
      rw [hao]
      simp only [optV] at hca
      repeat' (first
    | ((with_reducible apply opsF.op rfl); (case hs => (first | exact tHT | exact tHS)))
    | with_reducible (first | apply opsF.nil | apply seqF.nn | apply vcF.seq | apply vcF.region | apply vcF.skip | apply vcF.block | apply vcF.exit | apply vcF.ret | apply vcF.loop | apply seqF.e | apply seqF.r | apply blkF.nn | apply blkF.e | apply blkF.r | apply blkF.o rfl)
    | ((with_reducible apply opsF.call); (case hx => exact tAG))
    | ((with_reducible apply opsF.want); (case hg => exact tEV); (case hb => exact tNB))
    | ((with_reducible apply opsF.skip); (case hg => exact tEV); (case hb => exact tNB))
    | (first | ((with_reducible apply opsF.case); (case hg => exact tEV)) | ((with_reducible apply vcF.cond); (case hx => exact tEV))) <;> ((intro hc; try simp only [Int.reduceLT, Int.reduceLE, Int.reduceEq, Int.reduceNe, Int.cast_ofNat_Int, Int.reduceNeg, decide_true, decide_false, not_true_eq_false, not_false_eq_true, decide_eq_true_eq, decide_eq_false_iff_not, Bool.not_eq_true', Bool.not_eq_false', Bool.not_true, Bool.not_false, Bool.false_eq_true, Bool.true_eq_false, Bool.not_eq_true, Bool.not_eq_false, beq_iff_eq, beq_eq_false_iff_ne, bne_iff_ne, bne_eq_false_iff_eq, ne_eq, Int.not_lt, Int.not_le, ge_iff_le, gt_iff_lt, Decidable.not_not, reduceCtorEq, *] at hc) <;> (try (exfalso; omega)))
    | ((with_reducible apply opsF.und); (case hg => rfl))
    | ((with_reducible apply retF.r); (case hv => exact tRS))
    | ((with_reducible apply retF.nn); (case hv => exact tRS))
    | ((refine Call.use (hca _) ?_)))
      all_goals exact ⟨rfl, .of hE, fun t' ht => by cases ht⟩
    | some c =>
      rw [hcn] at hca
      simp only [optV] at hca
      repeat' (first
    | ((with_reducible apply opsF.op rfl); (case hs => (first | exact tHT | exact tHS)))
    | with_reducible (first | apply opsF.nil | apply seqF.nn | apply vcF.seq | apply vcF.region | apply vcF.skip | apply vcF.block | apply vcF.exit | apply vcF.ret | apply vcF.loop | apply seqF.e | apply seqF.r | apply blkF.nn | apply blkF.e | apply blkF.r | apply blkF.o rfl)
    | ((with_reducible apply opsF.call); (case hx => exact tAG))
    | ((with_reducible apply opsF.want); (case hg => exact tEV); (case hb => exact tNB))
    | ((with_reducible apply opsF.skip); (case hg => exact tEV); (case hb => exact tNB))
    | (first | ((with_reducible apply opsF.case); (case hg => exact tEV)) | ((with_reducible apply vcF.cond); (case hx => exact tEV))) <;> ((intro hc; try simp only [Int.reduceLT, Int.reduceLE, Int.reduceEq, Int.reduceNe, Int.cast_ofNat_Int, Int.reduceNeg, decide_true, decide_false, not_true_eq_false, not_false_eq_true, decide_eq_true_eq, decide_eq_false_iff_not, Bool.not_eq_true', Bool.not_eq_false', Bool.not_true, Bool.not_false, Bool.false_eq_true, Bool.true_eq_false, Bool.not_eq_true, Bool.not_eq_false, beq_iff_eq, beq_eq_false_iff_ne, bne_iff_ne, bne_eq_false_iff_eq, ne_eq, Int.not_lt, Int.not_le, ge_iff_le, gt_iff_lt, Decidable.not_not, reduceCtorEq, *] at hc) <;> (try (exfalso; omega)))
    | ((with_reducible apply opsF.und); (case hg => rfl))
    | ((with_reducible apply retF.r); (case hv => exact tRS))
    | ((with_reducible apply retF.nn); (case hv => exact tRS))
    | ((refine Call.use (hca _) ?_); obtain ⟨tok1, h6, hap, hT2, hT3, hT4, hT5, hT6⟩ := hTk.app))
      refine ⟨i + 1, by omega, acc ++ [c], tok1, by omega, h0, h5, h10, h11, rfl, ?_, by rw [set_n, hT5]; exact hbl, ?_, hT2.set, ?_, by simp; omega, ?_⟩
      · rw [set_at, if_pos rfl, srows_app]; rfl
      · exact (Ext.transX hE hT6 (fun _ x => x.elim) hF).set (Nat.le_refl _) _
      · intro x hx
        rcases hT3 x hx with hz | hz
        · exact hF x hz
        · exact Nat.le_trans hE.nt hz
      · rw [hS, hdw, canonsO, hcn]
        cases canonsO (ws.drop (i + 1)) <;> simp
  · have hno : canonsO ws = some acc := by rw [hS, List.drop_eq_nil_of_le hge]; simp [canonsO]
    rcases Nat.lt_or_ge acc.length 2 with hs2 | hs2
    · have hao : aliasO t ws = none := by
        rw [aliasO, hno]
        match acc, hs2 with
        | [], _ => rfl
        | [a], _ => rfl
      rw [hao]
      repeat' (first
    | ((with_reducible apply opsF.op rfl); (case hs => (first | exact tHT | exact tHS)))
    | with_reducible (first | apply opsF.nil | apply seqF.nn | apply vcF.seq | apply vcF.region | apply vcF.skip | apply vcF.block | apply vcF.exit | apply vcF.ret | apply vcF.loop | apply seqF.e | apply seqF.r | apply blkF.nn | apply blkF.e | apply blkF.r | apply blkF.o rfl)
    | ((with_reducible apply opsF.call); (case hx => exact tAG))
    | ((with_reducible apply opsF.want); (case hg => exact tEV); (case hb => exact tNB))
    | ((with_reducible apply opsF.skip); (case hg => exact tEV); (case hb => exact tNB))
    | (first | ((with_reducible apply opsF.case); (case hg => exact tEV)) | ((with_reducible apply vcF.cond); (case hx => exact tEV))) <;> ((intro hc; try simp only [Int.reduceLT, Int.reduceLE, Int.reduceEq, Int.reduceNe, Int.cast_ofNat_Int, Int.reduceNeg, decide_true, decide_false, not_true_eq_false, not_false_eq_true, decide_eq_true_eq, decide_eq_false_iff_not, Bool.not_eq_true', Bool.not_eq_false', Bool.not_true, Bool.not_false, Bool.false_eq_true, Bool.true_eq_false, Bool.not_eq_true, Bool.not_eq_false, beq_iff_eq, beq_eq_false_iff_ne, bne_iff_ne, bne_eq_false_iff_eq, ne_eq, Int.not_lt, Int.not_le, ge_iff_le, gt_iff_lt, Decidable.not_not, reduceCtorEq, *] at hc) <;> (try (exfalso; omega)))
    | ((with_reducible apply opsF.und); (case hg => rfl))
    | ((with_reducible apply retF.r); (case hv => exact tRS))
    | ((with_reducible apply retF.nn); (case hv => exact tRS)))
      all_goals exact ⟨rfl, .of hE, fun t' ht => by cases ht⟩
    · obtain ⟨a, b, r, hacc⟩ : ∃ a b r, acc = a :: b :: r := by
        match acc, hs2 with
        | a :: b :: r, _ => exact ⟨a, b, r, rfl⟩
      have hg0 : acc[0]? = some a := by rw [hacc]; rfl
      have hg1 : acc.drop 1 = b :: r := by rw [hacc]; rfl
      have hcf := confA (w0 := w0) table_parser_alias_1 [.ptr h.n 0] arow (fun x => decide (x.1 = a)) t.1 t1 h' (fun _ _ => rfl) (fun x _ => aliasC_p x a h.n tok h' acc hb5 hbl hg0) (by omega)
      cases hany : t.1.any (fun x => decide (x.1 = a)) with
      | true =>
        rw [hany] at hcf
        have hao : aliasO t ws = none := by rw [aliasO, hno, hacc]; simp only [hany, if_true]
        rw [hao]
        unfold tabC at hob'
        clear hacc hno hS
        repeat' (first
    | ((with_reducible apply opsF.op rfl); (case hs => (first | exact tHT | exact tHS)))
    | with_reducible (first | apply opsF.nil | apply seqF.nn | apply vcF.seq | apply vcF.region | apply vcF.skip | apply vcF.block | apply vcF.exit | apply vcF.ret | apply vcF.loop | apply seqF.e | apply seqF.r | apply blkF.nn | apply blkF.e | apply blkF.r | apply blkF.o rfl)
    | ((with_reducible apply opsF.call); (case hx => exact tAG))
    | ((with_reducible apply opsF.want); (case hg => exact tEV); (case hb => exact tNB))
    | ((with_reducible apply opsF.skip); (case hg => exact tEV); (case hb => exact tNB))
    | (first | ((with_reducible apply opsF.case); (case hg => exact tEV)) | ((with_reducible apply vcF.cond); (case hx => exact tEV))) <;> ((intro hc; try simp only [Int.reduceLT, Int.reduceLE, Int.reduceEq, Int.reduceNe, Int.cast_ofNat_Int, Int.reduceNeg, decide_true, decide_false, not_true_eq_false, not_false_eq_true, decide_eq_true_eq, decide_eq_false_iff_not, Bool.not_eq_true', Bool.not_eq_false', Bool.not_true, Bool.not_false, Bool.false_eq_true, Bool.true_eq_false, Bool.not_eq_true, Bool.not_eq_false, beq_iff_eq, beq_eq_false_iff_ne, bne_iff_ne, bne_eq_false_iff_eq, ne_eq, Int.not_lt, Int.not_le, ge_iff_le, gt_iff_lt, Decidable.not_not, reduceCtorEq, *] at hc) <;> (try (exfalso; omega)))
    | ((with_reducible apply opsF.und); (case hg => rfl))
    | ((with_reducible apply retF.r); (case hv => exact tRS))
    | ((with_reducible apply retF.nn); (case hv => exact tRS))
    | ((refine Call.use hcf ?_)))
        all_goals exact ⟨rfl, .of hE, fun t' ht => by cases ht⟩
      | false =>
        rw [hany] at hcf
        have hao : aliasO t ws = some (t.1 ++ [(a, b :: r)], t.2) := by rw [aliasO, hno, hacc]; simp only [hany, Bool.false_eq_true, if_false]
        rw [hao]
        obtain ⟨tok1, h6, hap, hT2, hT3, hT4, hT5, hT6⟩ := (hT.u1.ext hE).app
        unfold tabC at hob'
        clear hacc hno hS
        repeat' (first
    | ((with_reducible apply opsF.op rfl); (case hs => (first | exact tHT | exact tHS)))
    | with_reducible (first | apply opsF.nil | apply seqF.nn | apply vcF.seq | apply vcF.region | apply vcF.skip | apply vcF.block | apply vcF.exit | apply vcF.ret | apply vcF.loop | apply seqF.e | apply seqF.r | apply blkF.nn | apply blkF.e | apply blkF.r | apply blkF.o rfl)
    | ((with_reducible apply opsF.call); (case hx => exact tAG))
    | ((with_reducible apply opsF.want); (case hg => exact tEV); (case hb => exact tNB))
    | ((with_reducible apply opsF.skip); (case hg => exact tEV); (case hb => exact tNB))
    | (first | ((with_reducible apply opsF.case); (case hg => exact tEV)) | ((with_reducible apply vcF.cond); (case hx => exact tEV))) <;> ((intro hc; try simp only [Int.reduceLT, Int.reduceLE, Int.reduceEq, Int.reduceNe, Int.cast_ofNat_Int, Int.reduceNeg, decide_true, decide_false, not_true_eq_false, not_false_eq_true, decide_eq_true_eq, decide_eq_false_iff_not, Bool.not_eq_true', Bool.not_eq_false', Bool.not_true, Bool.not_false, Bool.false_eq_true, Bool.true_eq_false, Bool.not_eq_true, Bool.not_eq_false, beq_iff_eq, beq_eq_false_iff_ne, bne_iff_ne, bne_eq_false_iff_eq, ne_eq, Int.not_lt, Int.not_le, ge_iff_le, gt_iff_lt, Decidable.not_not, reduceCtorEq, *] at hc) <;> (try (exfalso; omega)))
    | ((with_reducible apply opsF.und); (case hg => rfl))
    | ((with_reducible apply retF.r); (case hv => exact tRS))
    | ((with_reducible apply retF.nn); (case hv => exact tRS))
    | ((refine Call.use hcf ?_)))
        refine ⟨rfl, ?_, fun t' ht => ?_⟩
        · refine ExtX.set (I := fun i => i = id) (i := id) ?_ (.inl rfl) _
          exact (ExtX.of hE).trans (hT6.mono (fun _ x => x.elim) fun x hx => hT.b1 x hx)
        · cases ht
          have hsr : (srows acc).drop 1 = srows (b :: r) := by rw [← hg1]; simp [srows, List.map_drop]
          have hst : ((srows acc).drop 1).take (i - 1) = srows (b :: r) := by
            rw [← hsr]
            exact List.take_of_length_le (by simp [srows_len]; omega)
          refine ⟨a, b :: r, tok, tok1, rfl, ?_, by rw [set_n, hT5]; exact Nat.lt_of_lt_of_le hlt hE.n, hT2.set, ?_, (tokU_keep (hT.u2.ext hE) hT6 hT.d12).set, (tokU_keep (hT.u3.ext hE) hT6 hT.d13).set⟩
          · rw [set_at, if_pos rfl, hst]
            rfl
          · intro x hx
            rcases hT3 x hx with hz | hz
            · exact .inl hz
            · exact .inr (Nat.le_trans hE.nt hz)
theorem alias_call (B : Nat) (id : Nat) (t : TB) (rest : List AV) (t1 t2 t3 : Tok) (ws : List (List UInt8)) (tkw : Tok) (h : AH) (hT : TS B h id t rest t1 t2 t3) (hw : ∀ w ∈ ws, w.length ≤ 1000000) (hl : ws.length ≤ 1000000) (htl : t.1.length ≤ 1000000) :
    Call P w0 table_parser_alias [.ptr id 0, .list 1 (srows ws) tkw] h (MethP B h id (aliasO t ws) rest) := by
  refine (alias_raw B id t rest t1 t2 t3 ws tkw h hT hw hl htl).weak fun v h' hq => ?_
  obtain ⟨hv, hE, hS⟩ := hq
  cases ho : aliasO t ws with
  | none => exact ⟨v, h', .refl _, .refl _, by rw [← ho]; exact hv, hE, fun t' ht => by cases ht⟩
  | some t' =>
    obtain ⟨l0, r, tk, t1', rfl, hob, hlt, hu1, hn1, hu2, hu3⟩ := hS t' ho
    refine ⟨v, h'.set id (.cells (tabC (t.1 ++ [(l0, r)], t.2) t1' t2 t3 ++ rest)), .refl _, ?_, by rw [← ho]; exact hv, ExtX.set (I := fun i => i = id) (i := id) hE (.inl rfl) _, fun t' ht => ?_⟩
    · refine AH.le.cells hob ?_
      exact .cons (arows_le _ _ _ _ _) (.refl _)
    · cases ht
      have hfr : ∀ x, t1'.owner = some x → ∀ tk : Tok, (∀ y, t1.owner = some y → tk.owner ≠ some y) → TokU h tk → tk.owner ≠ some x := by
        intro x hx tk hd hu he
        rcases hn1 x hx with hz | hz
        · exact hd x hz he
        · have := tokU_lt hu he; omega
      refine ⟨t1', t2, t3, by rw [set_at, if_pos rfl], hlt, Nat.le_trans hT.nt hE.nt, hu1.set, hu2.set, hu3.set, fun x hx => hfr x hx t2 hT.d12 hT.u2, fun x hx => hfr x hx t3 hT.d13 hT.u3, hT.d23, fun x hx => ?_, hT.b2, hT.b3⟩
      rcases hn1 x hx with hz | hz
      · exact hT.b1 x hz
      · have := hT.nt; omega
end Go.Abs.F
