/- Layer 14: the case of domains. -/
import Derived.Test.YtbakofbljfhoiaaDoorTabK
namespace Go.Abs.F
open Go Go.Abs
set_option maxRecDepth 10000
set_option maxHeartbeats 20000000
set_option linter.unusedSimpArgs false
set_option linter.unusedVariables false
variable {w0 : World}
theorem spl_mem (c x : UInt8) (hx : x ≠ c) : ∀ n (w : List UInt8), w.length ≤ n → x ∈ w → ∃ p ∈ splB c w, x ∈ p := by
  intro n
  induction n with
  | zero =>
    intro w hl hm
    cases w with
    | nil => cases hm
    | cons a b => simp at hl
  | succ n ih =>
    intro w hl hm
    rcases cutB_cases c w with ⟨g1, _⟩ | ⟨a, r, rfl, g2, _⟩
    · rw [splB_miss g1]; exact ⟨w, by simp, hm⟩
    · rw [splB_hit g2]
      rcases List.mem_append.1 hm with hm | hm
      · exact ⟨a, by simp, hm⟩
      · rcases List.mem_cons.1 hm with hm | hm
        · exact absurd hm hx
        · obtain ⟨p, hp, hm2⟩ := ih r (by simp at hl; omega) hm
          exact ⟨p, by simp [hp], hm2⟩
theorem full_mem {f : UInt8 → Bool} {s : List UInt8} (h : fullP f s = true) {x : UInt8} (hx : x ∈ s) : f x = true := by
  rw [fullP, Bool.and_eq_true] at h
  exact List.all_eq_true.1 h.2 x hx
theorem label_full {s : List UInt8} (h : labelS s = true) : fullP innerB s = true := by
  rw [labelS, Bool.and_eq_true, Bool.and_eq_true, Bool.and_eq_true] at h
  exact h.1.1.2
theorem dom_bytes {d : List UInt8} (h : domainS d = true) {x : UInt8} (hx : x ∈ d) : x = 46 ∨ innerB x = true := by
  rw [domainS, Bool.and_eq_true] at h
  by_cases e : x = 46
  · exact .inl e
  · obtain ⟨p, hp, hm⟩ := spl_mem 46 x e d.length d (Nat.le_refl _) hx
    exact .inr (full_mem (label_full (List.all_eq_true.1 h.2 p hp)) hm)
theorem loc_bytes {d : List UInt8} (h : localS d = true) {x : UInt8} (hx : x ∈ d) : x = 46 ∨ atomB x = true := by
  rw [localS, Bool.and_eq_true] at h
  by_cases e : x = 46
  · exact .inl e
  · obtain ⟨p, hp, hm⟩ := spl_mem 46 x e d.length d (Nat.le_refl _) hx
    exact .inr (full_mem (List.all_eq_true.1 h.2 p hp) hm)
theorem dom_not {d : List UInt8} (h : domainS d = true) (c : UInt8) (hc : c ≠ 46 ∧ innerB c = false) : c ∉ d := fun hm => by
  rcases dom_bytes h hm with e | e
  · exact hc.1 e
  · rw [hc.2] at e; cases e
theorem loc_not {d : List UInt8} (h : localS d = true) (c : UInt8) (hc : c ≠ 46 ∧ atomB c = false) : c ∉ d := fun hm => by
  rcases loc_bytes h hm with e | e
  · exact hc.1 e
  · rw [hc.2] at e; cases e
theorem splB_map {f : UInt8 → UInt8} {c : UInt8} (hf : ∀ b, f b = c ↔ b = c) : ∀ s : List UInt8, splB c (s.map f) = (splB c s).map (List.map f)
  | [] => rfl
  | x :: s => by
    have ih := splB_map hf s
    rw [List.map_cons, splB, splB, ih]
    by_cases e : x = c
    · rw [if_pos e, if_pos ((hf x).2 e)]; rfl
    · rw [if_neg e, if_neg (fun h => e ((hf x).1 h))]
      cases hs : splB c s with
      | nil => exact absurd hs (splB_ne c s)
      | cons a b => rfl
theorem all_u8 {p : UInt8 → Prop} (h : ∀ n : Fin 256, p (UInt8.ofNat n.val)) (b : UInt8) : p b := by
  have := h ⟨b.toNat, b.toNat_lt⟩
  rwa [UInt8.ofNat_toNat] at this
theorem up_dot (b : UInt8) : upB b = 46 ↔ b = 46 := all_u8 (p := fun b => upB b = 46 ↔ b = 46) (by decide +kernel) b
theorem up_dash (b : UInt8) : upB b = 45 ↔ b = 45 := all_u8 (p := fun b => upB b = 45 ↔ b = 45) (by decide +kernel) b
theorem up_inner (b : UInt8) : innerB (upB b) = innerB b := all_u8 (p := fun b => innerB (upB b) = innerB b) (by decide +kernel) b
theorem low_up (b : UInt8) : lowB (upB b) = lowB b := all_u8 (p := fun b => lowB (upB b) = lowB b) (by decide +kernel) b
theorem label_up (s : List UInt8) : labelS (s.map upB) = labelS s := by
  have h1 : fullP innerB (s.map upB) = fullP innerB s := by
    rw [fullP, fullP]
    have : (s.map upB).all innerB = s.all innerB := by
      rw [List.all_map]
      exact congrArg (fun f => s.all f) (funext fun b => up_inner b)
    rw [this]
    cases s <;> rfl
  have o : ∀ o : Option UInt8, (o.map upB ≠ some 45) = (o ≠ some 45) := by
    rintro (_ | x)
    · rfl
    · simp [up_dash]
  rw [labelS, labelS, h1, List.length_map, List.head?_map, List.getLast?_map]
  simp only [o]
theorem dom_up (s : List UInt8) : domainS (upperS s) = domainS s := by
  rw [domainS, domainS, upperS, List.length_map, splB_map up_dot, List.all_map]
  rw [show (labelS ∘ List.map upB) = labelS from funext fun s => label_up s]
theorem lower_up (s : List UInt8) : lowerS (upperS s) = lowerS s := by
  rw [lowerS, lowerS, upperS, List.map_map]
  exact List.map_congr_left fun b _ => low_up b
theorem banN_dom {d : List UInt8} (h : domainS d = true) : banN d = some (lowerS d) := by
  rw [banN, show d.contains 64 = false by simpa using dom_not h 64 (by decide), h]
  rfl
theorem banN_box {l d : List UInt8} (hl : localS l = true) (h : domainS d = true) : banN (l ++ 64 :: d) = some (l ++ 64 :: lowerS d) := by
  rw [banN, show (l ++ 64 :: d).contains 64 = true by simp, if_pos rfl, canonO, splitO, cutB_hit (loc_not hl 64 (by decide)), if_pos ⟨rfl, hl, h⟩]
  rfl
theorem dom_star {d : List UInt8} (h : domainS d = true) : d ≠ [42] := by
  rintro rfl
  exact absurd h (by decide +kernel)
theorem hop_line (t : TB) (n : Nat) (w : List UInt8) (y : UInt8) (hd : domainS w = true) (hy : domainS [y] = true) :
    lineO ([104, 111, 112, 32] ++ w ++ [32, y]) t n = if (t.2.1.any fun x => decide (x.1 = lowerS w)) = false then lineN n (some (t.1, t.2.1 ++ [(lowerS w, lowerS [y])], t.2.2)) else none := by
  have e1 : splB 32 ([104, 111, 112, 32] ++ w ++ [32, y]) = [[104, 111, 112], w, [y]] := by
    rw [show ([104, 111, 112, 32] ++ w ++ [32, y] : List UInt8) = [104, 111, 112] ++ 32 :: (w ++ 32 :: [y]) by simp, splB_hit (by decide), splB_hit (dom_not hd 32 (by decide)), splB_miss (by
      intro hm
      exact absurd hm (dom_not hy 32 (by decide)))]
  have q : entryO t [[104, 111, 112], w, [y]] = hopO t [w, [y]] := rfl
  rw [lineO, if_neg (by simp [skipB]), e1, q, hopO, hopD, if_neg (dom_star hd), hd, hy, Bool.or_true, Bool.true_and, Bool.true_and]
  cases (t.2.1.any fun x => decide (x.1 = lowerS w)) <;> rfl
theorem hop_first (w : List UInt8) (y : UInt8) (hd : domainS w = true) (hy : domainS [y] = true) :
    lineO ([104, 111, 112, 32] ++ w ++ [32, y]) zeroT 0 = some (([], [(lowerS w, lowerS [y])], [], 0), 1) := by
  rw [hop_line _ _ _ _ hd hy]; rfl
theorem banF_line (t : TB) (n : Nat) (l d : List UInt8) (hl : localS l = true) (hd : domainS d = true) :
    lineO ([98, 97, 110, 32, 102, 114, 111, 109, 32] ++ (l ++ 64 :: d)) t n = lineN n (some (t.1, t.2.1, t.2.2.1 ++ [(true, l ++ 64 :: lowerS d)], t.2.2.2)) := by
  have hno : (32 : UInt8) ∉ l ++ 64 :: d := by
    rw [List.mem_append, List.mem_cons]
    rintro (h | h | h)
    · exact loc_not hl 32 (by decide) h
    · exact absurd h (by decide)
    · exact dom_not hd 32 (by decide) h
  have e1 : splB 32 ([98, 97, 110, 32, 102, 114, 111, 109, 32] ++ (l ++ 64 :: d)) = [[98, 97, 110], [102, 114, 111, 109], l ++ 64 :: d] := by
    rw [show ([98, 97, 110, 32, 102, 114, 111, 109, 32] ++ (l ++ 64 :: d) : List UInt8) = [98, 97, 110] ++ 32 :: ([102, 114, 111, 109] ++ 32 :: (l ++ 64 :: d)) by simp, splB_hit (by decide), splB_hit (by decide), splB_miss hno]
  have q : entryO t [[98, 97, 110], [102, 114, 111, 109], l ++ 64 :: d] = banO t [[102, 114, 111, 109], l ++ 64 :: d] := rfl
  rw [lineO, if_neg (by simp [skipB]), e1, q, banO, if_pos (.inl rfl), banN_box hl hd]
  rfl
theorem banT_line (t : TB) (n : Nat) (d : List UInt8) (hd : domainS d = true) :
    lineO ([98, 97, 110, 32, 116, 111, 32] ++ d) t n = lineN n (some (t.1, t.2.1, t.2.2.1 ++ [(false, lowerS d)], t.2.2.2)) := by
  have e1 : splB 32 ([98, 97, 110, 32, 116, 111, 32] ++ d) = [[98, 97, 110], [116, 111], d] := by
    rw [show ([98, 97, 110, 32, 116, 111, 32] ++ d : List UInt8) = [98, 97, 110] ++ 32 :: ([116, 111] ++ 32 :: d) by simp, splB_hit (by decide), splB_hit (by decide), splB_miss (dom_not hd 32 (by decide))]
  have q : entryO t [[98, 97, 110], [116, 111], d] = banO t [[116, 111], d] := rfl
  rw [lineO, if_neg (by simp [skipB]), e1, q, banO, if_pos (.inr rfl), banN_dom hd]
  rfl
theorem not_app {c : UInt8} {a b : List UInt8} (ha : c ∉ a) (hb : c ∉ b) : c ∉ a ++ b := fun h => (List.mem_append.1 h).elim ha hb
theorem cases_one (l d : List UInt8) (hl : localS l = true) (hd : domainS d = true) (h1 : l.length ≤ 64) (h2 : d.length ≤ 200) :
    tableS ((((((([104, 111, 112, 32] ++ upperS d) ++ [32, 120, 10, 98, 97, 110, 32, 102, 114, 111, 109, 32]) ++ l) ++ [64]) ++ upperS d) ++ [10, 98, 97, 110, 32, 116, 111, 32]) ++ d) =
      (([], [(lowerS d, [120])], [(true, l ++ 64 :: lowerS d), (false, lowerS d)], 0), 0, 0) := by
  have hU : domainS (upperS d) = true := by rw [dom_up]; exact hd
  have hUl : (upperS d).length = d.length := by rw [upperS, List.length_map]
  have hlow := lower_up d
  generalize upperS d = U at *
  have e : ((((((([104, 111, 112, 32] ++ U) ++ [32, 120, 10, 98, 97, 110, 32, 102, 114, 111, 109, 32]) ++ l) ++ [64]) ++ U) ++ [10, 98, 97, 110, 32, 116, 111, 32]) ++ d)
      = ([104, 111, 112, 32] ++ U ++ [32, 120]) ++ 10 :: (([98, 97, 110, 32, 102, 114, 111, 109, 32] ++ (l ++ 64 :: U)) ++ 10 :: ([98, 97, 110, 32, 116, 111, 32] ++ d)) := by simp
  have n1 : (10 : UInt8) ∉ [104, 111, 112, 32] ++ U ++ [32, 120] := not_app (not_app (by decide) (dom_not hU 10 (by decide))) (by decide)
  have n2 : (10 : UInt8) ∉ [98, 97, 110, 32, 102, 114, 111, 109, 32] ++ (l ++ 64 :: U) := not_app (by decide) (not_app (loc_not hl 10 (by decide)) (by
    rw [List.mem_cons]
    rintro (h | h)
    · exact absurd h (by decide)
    · exact dom_not hU 10 (by decide) h))
  have n3 : (10 : UInt8) ∉ [98, 97, 110, 32, 116, 111, 32] ++ d := not_app (by decide) (dom_not hd 10 (by decide))
  rw [tableS, if_neg (by simp; omega), e, linesS_hit n1, linesS_hit n2, linesS_miss n3 (by simp), tparse_cons, hop_first _ _ hU (by decide +kernel), hlow]
  simp only [lineN, zeroT, List.nil_append, Nat.reduceAdd, Nat.reduceLeDiff, if_true]
  rw [tparse_cons, banF_line _ _ _ _ hl hU, hlow]
  simp only [lineN, zeroT, List.nil_append, Nat.reduceAdd, Nat.reduceLeDiff, if_true]
  rw [tparse_cons, banT_line _ _ _ hd]
  rfl
theorem cases_two (d : List UInt8) (hd : domainS d = true) (h2 : d.length ≤ 200) :
    tableS (((([104, 111, 112, 32] ++ d) ++ [32, 120, 10, 104, 111, 112, 32]) ++ upperS d) ++ [32, 121]) = (zeroT, 2, 7) := by
  have hU : domainS (upperS d) = true := by rw [dom_up]; exact hd
  have hUl : (upperS d).length = d.length := by rw [upperS, List.length_map]
  have hlow := lower_up d
  generalize upperS d = U at *
  have e : (((([104, 111, 112, 32] ++ d) ++ [32, 120, 10, 104, 111, 112, 32]) ++ U) ++ [32, 121])
      = ([104, 111, 112, 32] ++ d ++ [32, 120]) ++ 10 :: ([104, 111, 112, 32] ++ U ++ [32, 121]) := by simp
  have n1 : (10 : UInt8) ∉ [104, 111, 112, 32] ++ d ++ [32, 120] := not_app (not_app (by decide) (dom_not hd 10 (by decide))) (by decide)
  have n2 : (10 : UInt8) ∉ [104, 111, 112, 32] ++ U ++ [32, 121] := not_app (not_app (by decide) (dom_not hU 10 (by decide))) (by decide)
  rw [tableS, if_neg (by simp; omega), e, linesS_hit n1, linesS_miss n2 (by simp), tparse_cons, hop_first _ _ hd (by decide +kernel)]
  simp only [lineN, zeroT, List.nil_append, Nat.reduceAdd, Nat.reduceLeDiff, if_true]
  rw [tparse_cons, hop_line _ _ _ _ hU (by decide +kernel), hlow, if_neg (by simp)]
  rfl
theorem rloc_p (s : List UInt8) (h : AH) (hl : s.length ≤ 1000000000) : Call P w0 ref01_Local [.v (.string (bs s))] h (fun v h' => v = .v (.bool (localS s)) ∧ h' = h) := Call.pure (.v _) (rlocal_call s h (by omega))
theorem rup_p (s : List UInt8) (h : AH) (hl : s.length ≤ 1000000000) : Call P w0 ref01_Upper [.v (.string (bs s))] h (fun v h' => v = .v (.string (bs (upperS s))) ∧ h' = h) := Call.pure (.v _) (rupper_call s h (by omega))
theorem tcases_main (W : World) (hP : PowTab W) (hE : ErrVars W) (l d : List UInt8) (hl : l.length ≤ 140737488351232) (hd : d.length ≤ 140737488351232) : Call P W law14_TableCases [.v (.string (bs l)), .v (.string (bs d))] AH.start fun v _ => v = .v (.bool true) := by
  have hans := fun h => answers14_call (w0 := W) hP hE h
  refine Call.bodyF b_law14_TableCases rfl rfl ?_
  unfold c_law14_TableCases
  rcases Nat.lt_or_ge 64 l.length with hbig | hls
  · repeat' (first
    | ((with_reducible apply opsF.op rfl); (case hs => (first | exact tHT | exact tHS)))
    | with_reducible (first | apply opsF.nil | apply seqF.nn | apply vcF.seq | apply vcF.region | apply vcF.skip | apply vcF.ret | apply seqF.r)
    | ((with_reducible apply opsF.call); (case hx => exact tAG))
    | ((with_reducible apply opsF.want); (case hg => exact tEV); (case hb => exact tNB))
    | ((with_reducible apply opsF.skip); (case hg => exact tEV); (case hb => exact tNB))
    | (first | ((with_reducible apply opsF.case); (case hg => exact tEV)) | ((with_reducible apply vcF.cond); (case hx => exact tEV))) <;> ((intro hc; try simp only [Int.reduceLT, Int.reduceLE, Int.reduceEq, Int.reduceNe, Int.cast_ofNat_Int, Int.reduceNeg, decide_true, decide_false, not_true_eq_false, not_false_eq_true, decide_eq_true_eq, decide_eq_false_iff_not, Bool.not_eq_true', Bool.not_eq_false', Bool.not_true, Bool.not_false, Bool.false_eq_true, Bool.true_eq_false, Bool.not_eq_true, Bool.not_eq_false, beq_iff_eq, beq_eq_false_iff_ne, bne_iff_ne, bne_eq_false_iff_eq, ne_eq, Int.not_lt, Int.not_le, ge_iff_le, gt_iff_lt, Decidable.not_not, reduceCtorEq, *] at hc) <;> (try (exfalso; omega)))
    | ((with_reducible apply opsF.und); (case hg => rfl))
    | ((with_reducible apply retF.r); (case hv => exact tRS))
    | ((with_reducible apply retF.nn); (case hv => exact tRS))
    | ((refine Call.use (hans _) ?_)))
    all_goals rfl
  rcases Nat.lt_or_ge 200 d.length with hbig | hds
  · repeat' (first
    | ((with_reducible apply opsF.op rfl); (case hs => (first | exact tHT | exact tHS)))
    | with_reducible (first | apply opsF.nil | apply seqF.nn | apply vcF.seq | apply vcF.region | apply vcF.skip | apply vcF.ret | apply seqF.r)
    | ((with_reducible apply opsF.call); (case hx => exact tAG))
    | ((with_reducible apply opsF.want); (case hg => exact tEV); (case hb => exact tNB))
    | ((with_reducible apply opsF.skip); (case hg => exact tEV); (case hb => exact tNB))
    | (first | ((with_reducible apply opsF.case); (case hg => exact tEV)) | ((with_reducible apply vcF.cond); (case hx => exact tEV))) <;> ((intro hc; try simp only [Int.reduceLT, Int.reduceLE, Int.reduceEq, Int.reduceNe, Int.cast_ofNat_Int, Int.reduceNeg, decide_true, decide_false, not_true_eq_false, not_false_eq_true, decide_eq_true_eq, decide_eq_false_iff_not, Bool.not_eq_true', Bool.not_eq_false', Bool.not_true, Bool.not_false, Bool.false_eq_true, Bool.true_eq_false, Bool.not_eq_true, Bool.not_eq_false, beq_iff_eq, beq_eq_false_iff_ne, bne_iff_ne, bne_eq_false_iff_eq, ne_eq, Int.not_lt, Int.not_le, ge_iff_le, gt_iff_lt, Decidable.not_not, reduceCtorEq, *] at hc) <;> (try (exfalso; omega)))
    | ((with_reducible apply opsF.und); (case hg => rfl))
    | ((with_reducible apply retF.r); (case hv => exact tRS))
    | ((with_reducible apply retF.nn); (case hv => exact tRS))
    | ((refine Call.use (hans _) ?_)))
    all_goals rfl
  have hlo := fun h => rloc_p (w0 := W) l h (by omega)
  have hdo := fun h => rdom_p (w0 := W) d h (by omega)
  cases hc1 : localS l with
  | false =>
    rw [hc1] at hlo
    repeat' (first
    | ((with_reducible apply opsF.op rfl); (case hs => (first | exact tHT | exact tHS)))
    | with_reducible (first | apply opsF.nil | apply seqF.nn | apply vcF.seq | apply vcF.region | apply vcF.skip | apply vcF.ret | apply seqF.r)
    | ((with_reducible apply opsF.call); (case hx => exact tAG))
    | ((with_reducible apply opsF.want); (case hg => exact tEV); (case hb => exact tNB))
    | ((with_reducible apply opsF.skip); (case hg => exact tEV); (case hb => exact tNB))
    | (first | ((with_reducible apply opsF.case); (case hg => exact tEV)) | ((with_reducible apply vcF.cond); (case hx => exact tEV))) <;> ((intro hc; try simp only [Int.reduceLT, Int.reduceLE, Int.reduceEq, Int.reduceNe, Int.cast_ofNat_Int, Int.reduceNeg, decide_true, decide_false, not_true_eq_false, not_false_eq_true, decide_eq_true_eq, decide_eq_false_iff_not, Bool.not_eq_true', Bool.not_eq_false', Bool.not_true, Bool.not_false, Bool.false_eq_true, Bool.true_eq_false, Bool.not_eq_true, Bool.not_eq_false, beq_iff_eq, beq_eq_false_iff_ne, bne_iff_ne, bne_eq_false_iff_eq, ne_eq, Int.not_lt, Int.not_le, ge_iff_le, gt_iff_lt, Decidable.not_not, reduceCtorEq, *] at hc) <;> (try (exfalso; omega)))
    | ((with_reducible apply opsF.und); (case hg => rfl))
    | ((with_reducible apply retF.r); (case hv => exact tRS))
    | ((with_reducible apply retF.nn); (case hv => exact tRS))
    | ((refine Call.use (hans _) ?_))
    | ((refine Call.use (hlo _) ?_))
    | ((refine Call.use (hdo _) ?_)))
    all_goals rfl
  | true =>
    rw [hc1] at hlo
    cases hc2 : domainS d with
    | false =>
      rw [hc2] at hdo
      repeat' (first
    | ((with_reducible apply opsF.op rfl); (case hs => (first | exact tHT | exact tHS)))
    | with_reducible (first | apply opsF.nil | apply seqF.nn | apply vcF.seq | apply vcF.region | apply vcF.skip | apply vcF.ret | apply seqF.r)
    | ((with_reducible apply opsF.call); (case hx => exact tAG))
    | ((with_reducible apply opsF.want); (case hg => exact tEV); (case hb => exact tNB))
    | ((with_reducible apply opsF.skip); (case hg => exact tEV); (case hb => exact tNB))
    | (first | ((with_reducible apply opsF.case); (case hg => exact tEV)) | ((with_reducible apply vcF.cond); (case hx => exact tEV))) <;> ((intro hc; try simp only [Int.reduceLT, Int.reduceLE, Int.reduceEq, Int.reduceNe, Int.cast_ofNat_Int, Int.reduceNeg, decide_true, decide_false, not_true_eq_false, not_false_eq_true, decide_eq_true_eq, decide_eq_false_iff_not, Bool.not_eq_true', Bool.not_eq_false', Bool.not_true, Bool.not_false, Bool.false_eq_true, Bool.true_eq_false, Bool.not_eq_true, Bool.not_eq_false, beq_iff_eq, beq_eq_false_iff_ne, bne_iff_ne, bne_eq_false_iff_eq, ne_eq, Int.not_lt, Int.not_le, ge_iff_le, gt_iff_lt, Decidable.not_not, reduceCtorEq, *] at hc) <;> (try (exfalso; omega)))
    | ((with_reducible apply opsF.und); (case hg => rfl))
    | ((with_reducible apply retF.r); (case hv => exact tRS))
    | ((with_reducible apply retF.nn); (case hv => exact tRS))
    | ((refine Call.use (hans _) ?_))
    | ((refine Call.use (hlo _) ?_))
    | ((refine Call.use (hdo _) ?_)))
      all_goals rfl
    | true =>
      rw [hc2] at hdo
      have hup := fun h => rup_p (w0 := W) d h (by omega)
      have hlw := fun h => rlow_p (w0 := W) d h (by omega)
      have hUl : (upperS d).length = d.length := by rw [upperS, List.length_map]
      have hLl : (lowerS d).length = d.length := by rw [lowerS, List.length_map]
      have hp1 := fun h => table_call (w0 := W) hP hE ((((((([104, 111, 112, 32] ++ upperS d) ++ [32, 120, 10, 98, 97, 110, 32, 102, 114, 111, 109, 32]) ++ l) ++ [64]) ++ upperS d) ++ [10, 98, 97, 110, 32, 116, 111, 32]) ++ d) h (by simp; omega)
      have hp2 := fun h => table_call (w0 := W) hP hE (((([104, 111, 112, 32] ++ d) ++ [32, 120, 10, 104, 111, 112, 32]) ++ upperS d) ++ [32, 121]) h (by simp; omega)
      rw [cases_one l d hc1 hc2 hls hds] at hp1
      rw [cases_two d hc2 hds] at hp2
      simp only [tabV, resV, tabC, zeroT, List.map_nil, List.map_cons, hrow, brow] at hp1 hp2
      have hcat : (l ++ [64]) ++ lowerS d = l ++ 64 :: lowerS d := by simp
      rw [← hcat] at hp1
      generalize upperS d = U at *
      generalize lowerS d = L at *
      repeat' (first
    | ((with_reducible apply opsF.op rfl); (case hs => (first | exact tHT | exact tHS)))
    | with_reducible (first | apply opsF.nil | apply seqF.nn | apply vcF.seq | apply vcF.region | apply vcF.skip | apply vcF.ret | apply seqF.r)
    | ((with_reducible apply opsF.call); (case hx => exact tAG))
    | ((with_reducible apply opsF.want); (case hg => exact tEV); (case hb => exact tNB))
    | ((with_reducible apply opsF.skip); (case hg => exact tEV); (case hb => exact tNB))
    | (first | ((with_reducible apply opsF.case); (case hg => exact tEV)) | ((with_reducible apply vcF.cond); (case hx => exact tEV))) <;> ((intro hc; try simp only [Int.reduceLT, Int.reduceLE, Int.reduceEq, Int.reduceNe, Int.cast_ofNat_Int, Int.reduceNeg, decide_true, decide_false, not_true_eq_false, not_false_eq_true, decide_eq_true_eq, decide_eq_false_iff_not, Bool.not_eq_true', Bool.not_eq_false', Bool.not_true, Bool.not_false, Bool.false_eq_true, Bool.true_eq_false, Bool.not_eq_true, Bool.not_eq_false, beq_iff_eq, beq_eq_false_iff_ne, bne_iff_ne, bne_eq_false_iff_eq, ne_eq, Int.not_lt, Int.not_le, ge_iff_le, gt_iff_lt, Decidable.not_not, reduceCtorEq, *] at hc) <;> (try (exfalso; omega)))
    | ((with_reducible apply opsF.und); (case hg => rfl))
    | ((with_reducible apply retF.r); (case hv => exact tRS))
    | ((with_reducible apply retF.nn); (case hv => exact tRS))
    | ((refine Call.use (hans _) ?_))
    | ((refine Call.use (hlo _) ?_))
    | ((refine Call.use (hdo _) ?_))
    | ((refine Call.use (hup _) ?_))
    | ((refine Call.use (hlw _) ?_))
    | ((refine Call.use (hp1 _) ?_))
    | ((refine Call.use (hp2 _) ?_)))
      all_goals first | rfl | (simp; done) | trace_state
theorem law_TableCases (W : World) (hL : laidMetH P Go.Proofs.YtbakofbljfhoiaaDoor.Rows.tableCasesRow.laid W) (x0 : Ty.str.D) (h0 : Ty.str.wf x0) (g0 : Ty.str.fit 140737488351232 x0) (x1 : Ty.str.D) (h1 : Ty.str.wf x1) (g1 : Ty.str.fit 140737488351232 x1) :
    Call P W law14_TableCases [Ty.str.val x0, Ty.str.val x1] AH.start fun v _ => v = .v (.bool true) :=
  tcases_main W (powTab_of hL (by kernel_rfl)) (errVars_of hL (by kernel_rfl) (by kernel_rfl)) x0 x1 g0 g1
end Go.Abs.F
