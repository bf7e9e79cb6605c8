/- Layer 3: options told twice, or otherwise, or not known. -/
import Derived.Test.YtbakofbljfhoiaaDoorLv3
import Derived.Test.YtbakofbljfhoiaaDoorAbsW
namespace Go.Abs.F
open Go Go.Abs
set_option maxRecDepth 10000
set_option maxHeartbeats 20000000
set_option linter.unusedSimpArgs false
set_option linter.unusedVariables false
variable {w0 : World}
def tailsO : List (List UInt8) := [[32, 83, 73, 90, 69, 61, 49, 32, 83, 73, 90, 69, 61, 49], [32, 83, 73, 90, 69], [32, 83, 73, 90, 69, 61], [32, 83, 73, 90, 69, 61, 49, 50, 51, 52, 53, 54, 55, 56, 57, 48], [32, 83, 73, 90, 69, 61, 45, 49], [32, 66, 79, 68, 89, 61, 57], [32, 66, 79, 68, 89, 61, 55, 66, 73, 84, 32, 66, 79, 68, 89, 61, 55, 66, 73, 84], [32], [32, 32, 83, 73, 90, 69, 61, 49], [32, 61, 49], [32, 70, 79, 79, 32, 70, 79, 79, 61], [32, 70, 79, 79, 32, 83, 73, 90, 69, 61, 120], [32, 70, 79, 79], [32, 70, 79, 79, 61, 49, 32, 83, 73, 90, 69, 61, 51], [120]]
def codesO : List Int := [501, 501, 501, 501, 501, 501, 501, 501, 501, 501, 555, 501, 555, 555, 501]
def crows (l : List Int) : List (List AV) := l.map fun c => [.v (.int .i64 c)]
theorem crows_len (l : List Int) : (crows l).length = l.length := by simp [crows]
theorem crows_get (l : List Int) (i : Nat) : (crows l)[i]? = (l[i]?).map fun c => [.v (.int .i64 c)] := by simp [crows]
theorem normS_1 (x : Int × VS) : (normS x).1 = x.1 := by
  unfold normS
  split <;> rfl
theorem verbS_tail {m c : List UInt8} (hm : canonO m = some c) (ws : List (List UInt8)) (hw : ∀ w ∈ ws, 32 ∉ w) : (verbS ((([77, 65, 73, 76, 32, 70, 82, 79, 77, 58, 60] ++ m) ++ [62]) ++ tailJ ws)).1 = (eachG optS (-1, false, false) 0 ws).1 := by
  obtain ⟨m1, m2, m3⟩ := mail_ok hm
  have h := verbS_mail (l4 := [77, 65, 73, 76]) (f5 := [70, 82, 79, 77, 58]) (p := 60 :: (m ++ [62])) ws (by decide) (by decide) rfl (by decide) (by simp [m3]) hw (path_box hm)
  have e : (([77, 65, 73, 76, 32, 70, 82, 79, 77, 58, 60] ++ m) ++ [62]) ++ tailJ ws = [77, 65, 73, 76] ++ 32 :: ([70, 82, 79, 77, 58] ++ ((60 :: (m ++ [62])) ++ tailJ ws)) := by simp
  rw [e, h, normS_1]
theorem opts_ok {m c : List UInt8} (hm : canonO m = some c) : ∀ (j : Nat) (t : List UInt8) (k : Int), tailsO[j]? = some t → codesO[j]? = some k → (verbS ((([77, 65, 73, 76, 32, 70, 82, 79, 77, 58, 60] ++ m) ++ [62]) ++ t)).1 = k := by
  intro j t k ht hk
  obtain ⟨m1, m2, m3⟩ := mail_ok hm
  have hj : j < 15 := by
    have := (List.getElem?_eq_some_iff.1 ht).1
    exact this
  rcases (by omega : j = 0 ∨ j = 1 ∨ j = 2 ∨ j = 3 ∨ j = 4 ∨ j = 5 ∨ j = 6 ∨ j = 7 ∨ j = 8 ∨ j = 9 ∨ j = 10 ∨ j = 11 ∨ j = 12 ∨ j = 13 ∨ j = 14) with rfl | rfl | rfl | rfl | rfl | rfl | rfl | rfl | rfl | rfl | rfl | rfl | rfl | rfl | rfl
  · injection ht with ht
    injection hk with hk
    subst ht
    subst hk
    exact (verbS_tail hm [[83, 73, 90, 69, 61, 49], [83, 73, 90, 69, 61, 49]] (by decide)).trans (by kernel_rfl)
  · injection ht with ht
    injection hk with hk
    subst ht
    subst hk
    exact (verbS_tail hm [[83, 73, 90, 69]] (by decide)).trans (by kernel_rfl)
  · injection ht with ht
    injection hk with hk
    subst ht
    subst hk
    exact (verbS_tail hm [[83, 73, 90, 69, 61]] (by decide)).trans (by kernel_rfl)
  · injection ht with ht
    injection hk with hk
    subst ht
    subst hk
    exact (verbS_tail hm [[83, 73, 90, 69, 61, 49, 50, 51, 52, 53, 54, 55, 56, 57, 48]] (by decide)).trans (by kernel_rfl)
  · injection ht with ht
    injection hk with hk
    subst ht
    subst hk
    exact (verbS_tail hm [[83, 73, 90, 69, 61, 45, 49]] (by decide)).trans (by kernel_rfl)
  · injection ht with ht
    injection hk with hk
    subst ht
    subst hk
    exact (verbS_tail hm [[66, 79, 68, 89, 61, 57]] (by decide)).trans (by kernel_rfl)
  · injection ht with ht
    injection hk with hk
    subst ht
    subst hk
    exact (verbS_tail hm [[66, 79, 68, 89, 61, 55, 66, 73, 84], [66, 79, 68, 89, 61, 55, 66, 73, 84]] (by decide)).trans (by kernel_rfl)
  · injection ht with ht
    injection hk with hk
    subst ht
    subst hk
    exact (verbS_tail hm [[]] (by decide)).trans (by kernel_rfl)
  · injection ht with ht
    injection hk with hk
    subst ht
    subst hk
    exact (verbS_tail hm [[], [83, 73, 90, 69, 61, 49]] (by decide)).trans (by kernel_rfl)
  · injection ht with ht
    injection hk with hk
    subst ht
    subst hk
    exact (verbS_tail hm [[61, 49]] (by decide)).trans (by kernel_rfl)
  · injection ht with ht
    injection hk with hk
    subst ht
    subst hk
    exact (verbS_tail hm [[70, 79, 79], [70, 79, 79, 61]] (by decide)).trans (by kernel_rfl)
  · injection ht with ht
    injection hk with hk
    subst ht
    subst hk
    exact (verbS_tail hm [[70, 79, 79], [83, 73, 90, 69, 61, 120]] (by decide)).trans (by kernel_rfl)
  · injection ht with ht
    injection hk with hk
    subst ht
    subst hk
    exact (verbS_tail hm [[70, 79, 79]] (by decide)).trans (by kernel_rfl)
  · injection ht with ht
    injection hk with hk
    subst ht
    subst hk
    exact (verbS_tail hm [[70, 79, 79, 61, 49], [83, 73, 90, 69, 61, 51]] (by decide)).trans (by kernel_rfl)
  · injection ht with ht
    injection hk with hk
    subst ht
    subst hk
    have h := verbS_mailx (l4 := [77, 65, 73, 76]) (f5 := [70, 82, 79, 77, 58]) (p := 60 :: (m ++ [62, 120])) (by decide) (by decide) rfl (by decide) (by simp [m3]) path_x
    have e : (([77, 65, 73, 76, 32, 70, 82, 79, 77, 58, 60] ++ m) ++ [62]) ++ [120] = [77, 65, 73, 76] ++ 32 :: ([70, 82, 79, 77, 58] ++ (60 :: (m ++ [62, 120]))) := by simp
    rw [e, h]
theorem rcpt_foo {m c : List UInt8} (hm : canonO m = some c) : (verbS (([82, 67, 80, 84, 32, 84, 79, 58, 60] ++ m) ++ [62, 32, 70, 79, 79, 61, 49])).1 = 555 := by
  obtain ⟨m1, m2, m3⟩ := mail_ok hm
  have h := verbS_rcpt (l4 := [82, 67, 80, 84]) (f3 := [84, 79, 58]) (p := 60 :: (m ++ [62])) [[70, 79, 79, 61, 49]] (by decide) (by decide) rfl (by decide) (by simp [m3]) (by decide) (path_box hm) (canon_ne hm)
  have e : ([82, 67, 80, 84, 32, 84, 79, 58, 60] ++ m) ++ [62, 32, 70, 79, 79, 61, 49] = [82, 67, 80, 84] ++ 32 :: ([84, 79, 58] ++ ((60 :: (m ++ [62])) ++ tailJ [[70, 79, 79, 61, 49]])) := by simp [tailJ]
  rw [e, h, normS_1]
  show (eachG (fun (_ : Unit) w => (rcptO w, ())) () 0 [[70, 79, 79, 61, 49]]).1 = 555
  decide
theorem rcpt_none : verbS [82, 67, 80, 84, 32, 84, 79, 58, 60, 62] = (501, zeroV) := by kernel_rfl
def tlO : IOp := .lit 1 15 [.v (.string (bs []))] [(0, .cst (.v (.string (bs [32, 83, 73, 90, 69, 61, 49, 32, 83, 73, 90, 69, 61, 49])))), (1, .cst (.v (.string (bs [32, 83, 73, 90, 69])))), (2, .cst (.v (.string (bs [32, 83, 73, 90, 69, 61])))), (3, .cst (.v (.string (bs [32, 83, 73, 90, 69, 61, 49, 50, 51, 52, 53, 54, 55, 56, 57, 48])))), (4, .cst (.v (.string (bs [32, 83, 73, 90, 69, 61, 45, 49])))), (5, .cst (.v (.string (bs [32, 66, 79, 68, 89, 61, 57])))), (6, .cst (.v (.string (bs [32, 66, 79, 68, 89, 61, 55, 66, 73, 84, 32, 66, 79, 68, 89, 61, 55, 66, 73, 84])))), (7, .cst (.v (.string (bs [32])))), (8, .cst (.v (.string (bs [32, 32, 83, 73, 90, 69, 61, 49])))), (9, .cst (.v (.string (bs [32, 61, 49])))), (10, .cst (.v (.string (bs [32, 70, 79, 79, 32, 70, 79, 79, 61])))), (11, .cst (.v (.string (bs [32, 70, 79, 79, 32, 83, 73, 90, 69, 61, 120])))), (12, .cst (.v (.string (bs [32, 70, 79, 79])))), (13, .cst (.v (.string (bs [32, 70, 79, 79, 61, 49, 32, 83, 73, 90, 69, 61, 51])))), (14, .cst (.v (.string (bs [120]))))]
def tlC : IOp := .lit 1 15 [.v (.int .i64 0)] [(0, .cst (.v (.int .i64 501))), (1, .cst (.v (.int .i64 501))), (2, .cst (.v (.int .i64 501))), (3, .cst (.v (.int .i64 501))), (4, .cst (.v (.int .i64 501))), (5, .cst (.v (.int .i64 501))), (6, .cst (.v (.int .i64 501))), (7, .cst (.v (.int .i64 501))), (8, .cst (.v (.int .i64 501))), (9, .cst (.v (.int .i64 501))), (10, .cst (.v (.int .i64 555))), (11, .cst (.v (.int .i64 501))), (12, .cst (.v (.int .i64 555))), (13, .cst (.v (.int .i64 555))), (14, .cst (.v (.int .i64 501)))]
noncomputable def c_vo (t1 t2 : IOp) : IC := .seq (.region [⟨some 4, .mv (.cst (.v (.bool .false))), none⟩]) (.seq (.region [⟨some 17, .mv (.tmp 1), none⟩, ⟨some 18, .call ref01_Canon [.tmp 17], none⟩, ⟨some 16, .mv (.tmp 18), none⟩, ⟨some 19, .ext (.tmp 16) 0, none⟩, ⟨some 20, .ext (.tmp 16) 1, none⟩, ⟨some 5, .mv (.tmp 19), none⟩, ⟨some 6, .mv (.tmp 20), none⟩]) (.seq (.seq (.region [⟨some 21, .mv (.tmp 1), none⟩, ⟨some 22, .len .str (.tmp 21), none⟩, ⟨some 23, .bin .gtr .other (.tmp 22) (.cst (.v (.int .i64 200))), none⟩, ⟨some 24, .mv (.tmp 23), none⟩, ⟨some 25, .mv (.tmp 6), some (24, .false)⟩, ⟨some 26, .un .not (.tmp 25), some (24, .false)⟩, ⟨some 27, .pick (.tmp 24) (.cst (.v (.bool .true))) (.tmp 26), none⟩]) (.cond (.tmp 27) (.seq (.region [⟨some 28, .call law03_answers [], none⟩, ⟨some 4, .mv (.tmp 28), none⟩]) .ret) .skip)) (.seq (.region [⟨some 29, t1, none⟩, ⟨some 7, .mv (.tmp 29), none⟩]) (.seq (.region [⟨some 30, t2, none⟩, ⟨some 8, .mv (.tmp 30), none⟩]) (.seq (.region [⟨some 31, .mv (.tmp 0), none⟩, ⟨some 32, .bin .rem .other (.tmp 31) (.cst (.v (.int .u8 15))), none⟩, ⟨some 33, .convI .i64 (.tmp 32), none⟩, ⟨some 9, .mv (.tmp 33), none⟩]) (.seq (.region [⟨some 35, .mv (.tmp 1), none⟩, ⟨some 36, .bin .add .other (.cst (.v (.string (bs [77, 65, 73, 76, 32, 70, 82, 79, 77, 58, 60])))) (.tmp 35), none⟩, ⟨some 37, .bin .add .other (.tmp 36) (.cst (.v (.string (bs [62])))), none⟩, ⟨some 38, .mv (.tmp 7), none⟩, ⟨some 39, .mv (.tmp 9), none⟩, ⟨some 40, .iaL 1 (.tmp 38) (.tmp 39), none⟩, ⟨some 41, .load (.tmp 40) none, none⟩, ⟨some 42, .bin .add .other (.tmp 37) (.tmp 41), none⟩, ⟨some 43, .call verb_Parse [.tmp 42], none⟩, ⟨some 34, .mv (.tmp 43), none⟩, ⟨some 44, .ext (.tmp 34) 0, none⟩, ⟨some 45, .ext (.tmp 34) 1, none⟩, ⟨some 10, .new [.v (.string (bs [])), .v (.string (bs [])), .v (.int .i64 0), .v (.bool .false)], none⟩, ⟨none, .store (.tmp 10) (.tmp 44) 4, none⟩, ⟨some 11, .mv (.tmp 45), none⟩]) (.seq (.region [⟨some 47, .mv (.tmp 1), none⟩, ⟨some 48, .bin .add .other (.cst (.v (.string (bs [82, 67, 80, 84, 32, 84, 79, 58, 60])))) (.tmp 47), none⟩, ⟨some 49, .bin .add .other (.tmp 48) (.cst (.v (.string (bs [62, 32, 70, 79, 79, 61, 49])))), none⟩, ⟨some 50, .call verb_Parse [.tmp 49], none⟩, ⟨some 46, .mv (.tmp 50), none⟩, ⟨some 51, .ext (.tmp 46) 0, none⟩, ⟨some 52, .ext (.tmp 46) 1, none⟩, ⟨some 12, .new [.v (.string (bs [])), .v (.string (bs [])), .v (.int .i64 0), .v (.bool .false)], none⟩, ⟨none, .store (.tmp 12) (.tmp 51) 4, none⟩, ⟨some 13, .mv (.tmp 52), none⟩]) (.seq (.region [⟨some 54, .call verb_Parse [.cst (.v (.string (bs [82, 67, 80, 84, 32, 84, 79, 58, 60, 62])))], none⟩, ⟨some 53, .mv (.tmp 54), none⟩, ⟨some 55, .ext (.tmp 53) 0, none⟩, ⟨some 56, .ext (.tmp 53) 1, none⟩, ⟨some 14, .new [.v (.string (bs [])), .v (.string (bs [])), .v (.int .i64 0), .v (.bool .false)], none⟩, ⟨none, .store (.tmp 14) (.tmp 55) 4, none⟩, ⟨some 15, .mv (.tmp 56), none⟩]) (.seq (.region [⟨some 57, .call law03_answers [], none⟩, ⟨some 58, .mv (.tmp 57), none⟩, ⟨some 59, .mv (.tmp 11), some (58, .true)⟩, ⟨some 60, .mv (.tmp 8), some (58, .true)⟩, ⟨some 61, .mv (.tmp 9), some (58, .true)⟩, ⟨some 62, .iaL 1 (.tmp 60) (.tmp 61), some (58, .true)⟩, ⟨some 63, .load (.tmp 62) none, some (58, .true)⟩, ⟨some 64, .bin .eql .other (.tmp 59) (.tmp 63), some (58, .true)⟩, ⟨some 65, .pick (.tmp 58) (.tmp 64) (.cst (.v (.bool .false))), none⟩, ⟨some 66, .mv (.tmp 65), none⟩, ⟨some 67, .mv (.tmp 13), some (66, .true)⟩, ⟨some 68, .bin .eql .other (.tmp 67) (.cst (.v (.int .i64 555))), some (66, .true)⟩, ⟨some 69, .pick (.tmp 66) (.tmp 68) (.cst (.v (.bool .false))), none⟩, ⟨some 70, .mv (.tmp 69), none⟩, ⟨some 71, .mv (.tmp 15), some (70, .true)⟩, ⟨some 72, .bin .eql .other (.tmp 71) (.cst (.v (.int .i64 501))), some (70, .true)⟩, ⟨some 73, .pick (.tmp 70) (.tmp 72) (.cst (.v (.bool .false))), none⟩, ⟨some 4, .mv (.tmp 73), none⟩]) .ret)))))))))
theorem b_vo : HasBody P law03_VerbOptions 74 (c_vo tlO tlC) [.tmp 4] := (show c_law03_VerbOptions = c_vo tlO tlC by kernel_rfl) ▸ b_law03_VerbOptions
theorem tlO_run (σ : Fm) (h : AH) : istep tlO (evF σ) h = some (.list 1 (srows tailsO) .full, h) := by kernel_rfl
theorem tlC_run (σ : Fm) (h : AH) : istep tlC (evF σ) h = some (.list 1 (crows codesO) .full, h) := by kernel_rfl
theorem tlO_nc : tlO.noCall = true := by kernel_rfl
theorem tlC_nc : tlC.noCall = true := by kernel_rfl
theorem options_main (W : World) (hE : ErrVars W) (t1 t2 : IOp) (n1 : t1.noCall = true) (n2 : t2.noCall = true) (r1 : ∀ (σ : Fm) (h : AH), istep t1 (evF σ) h = some (.list 1 (srows tailsO) .full, h)) (r2 : ∀ (σ : Fm) (h : AH), istep t2 (evF σ) h = some (.list 1 (crows codesO) .full, h))
    (k : Int) (hk0 : 0 ≤ k) (hk1 : k < 256) (m : List UInt8) (hl : m.length ≤ 140737488351232) :
    vcF P W 74 (c_vo t1 t2) (retF [.tmp 4] fun v _ => v = .v (.bool true)) (argF [.v (.int .u8 k), .v (.string (bs m))]) AH.start := by
  have hans := fun h => answers3_call (w0 := W) hE h
  have hrc := fun h => rcanon_call (w0 := W) m h (by omega)
  have xl := srows_len
  have xg := srows_get
  have yl := crows_len
  have yg := crows_get
  unfold c_vo
  rcases Nat.lt_or_ge 200 m.length with hbig | hsm
  · cases hc : canonO m with
    | none =>
      rw [hc] at hrc
      simp only [optV] at hrc
      repeat' (first
    | ((with_reducible apply opsF.op rfl); (case hs => (first | exact tHT | exact tHS)))
    | with_reducible (first | apply opsF.nil | apply seqF.nn | apply vcF.seq | apply vcF.region | apply vcF.dregion | apply vcF.skip | apply vcF.block | apply vcF.exit | apply vcF.ret | apply vcF.loop | apply seqF.e | apply seqF.r | apply blkF.nn | apply blkF.e | apply blkF.r | apply blkF.o rfl | apply dopsF.nil | apply stabsF.nil | apply stabsF.cons | apply dopsF.cont)
    | ((with_reducible apply opsF.call); (case hx => exact tAG))
    | ((with_reducible apply opsF.want); (case hg => exact tEV); (case hb => exact tNB))
    | ((with_reducible apply opsF.skip); (case hg => exact tEV); (case hb => exact tNB))
    | (first | ((with_reducible apply opsF.case); (case hg => exact tEV)) | ((with_reducible apply vcF.cond); (case hx => exact tEV)) | ((with_reducible apply dopsF.case); (case hg => exact tEV))) <;> ((intro hc; try simp only [Int.reduceLT, Int.reduceLE, Int.reduceEq, Int.reduceNe, Int.cast_ofNat_Int, Int.reduceNeg, decide_true, decide_false, not_true_eq_false, not_false_eq_true, decide_eq_true_eq, decide_eq_false_iff_not, Bool.not_eq_true', Bool.not_eq_false', Bool.not_true, Bool.not_false, Bool.false_eq_true, Bool.true_eq_false, Bool.not_eq_true, Bool.not_eq_false, beq_iff_eq, beq_eq_false_iff_ne, bne_iff_ne, bne_eq_false_iff_eq, ne_eq, Int.not_lt, Int.not_le, ge_iff_le, gt_iff_lt, Decidable.not_not, reduceCtorEq, *] at hc) <;> (try (exfalso; omega)))
    | ((with_reducible apply opsF.und); (case hg => rfl))
    | ((with_reducible apply opsF.callv); (case hf => exact tEV); (case hx => exact tCV))
    | ((with_reducible apply dopsF.op rfl); (case hs => (first | exact tHT | exact tHS)))
    | ((with_reducible apply dopsF.call); (case hx => exact tAG))
    | ((with_reducible apply dopsF.want); (case hg => exact tEV); (case hb => exact tNB))
    | ((with_reducible apply dopsF.skip); (case hg => exact tEV); (case hb => exact tNB))
    | ((with_reducible apply dopsF.und); (case hg => rfl))
    | ((with_reducible apply stabF.und); rfl)
    | ((with_reducible apply stabF.want); (case hg => exact tEV); (case hb => exact tNB))
    | ((with_reducible apply stabF.skip); (case hg => exact tEV); (case hb => exact tNB))
    | ((with_reducible apply stabF.op); (case hs => (first | exact tHT | exact tHS)); (case hv => exact tSV))
    | ((with_reducible apply retF.r); (case hv => exact tRS))
    | ((with_reducible apply retF.nn); (case hv => exact tRS))
    | ((refine (hrc _).mono fun v h1 hp => ?_); obtain ⟨rfl, he1⟩ := hp; have hN := he1.n; have hO := he1.objs; (try simp only [alloc_n, set_n, newTok_n, bump_n] at hN hO))
    | ((refine (hans _).mono fun v h7 hp => ?_); obtain ⟨rfl, he7⟩ := hp; have hN := he7.n; have hO := he7.objs; (try simp only [alloc_n, set_n, newTok_n, bump_n] at hN hO)))
      all_goals simp
    | some c =>
      rw [hc] at hrc
      simp only [optV] at hrc
      repeat' (first
    | ((with_reducible apply opsF.op rfl); (case hs => (first | exact tHT | exact tHS)))
    | with_reducible (first | apply opsF.nil | apply seqF.nn | apply vcF.seq | apply vcF.region | apply vcF.dregion | apply vcF.skip | apply vcF.block | apply vcF.exit | apply vcF.ret | apply vcF.loop | apply seqF.e | apply seqF.r | apply blkF.nn | apply blkF.e | apply blkF.r | apply blkF.o rfl | apply dopsF.nil | apply stabsF.nil | apply stabsF.cons | apply dopsF.cont)
    | ((with_reducible apply opsF.call); (case hx => exact tAG))
    | ((with_reducible apply opsF.want); (case hg => exact tEV); (case hb => exact tNB))
    | ((with_reducible apply opsF.skip); (case hg => exact tEV); (case hb => exact tNB))
    | (first | ((with_reducible apply opsF.case); (case hg => exact tEV)) | ((with_reducible apply vcF.cond); (case hx => exact tEV)) | ((with_reducible apply dopsF.case); (case hg => exact tEV))) <;> ((intro hc; try simp only [Int.reduceLT, Int.reduceLE, Int.reduceEq, Int.reduceNe, Int.cast_ofNat_Int, Int.reduceNeg, decide_true, decide_false, not_true_eq_false, not_false_eq_true, decide_eq_true_eq, decide_eq_false_iff_not, Bool.not_eq_true', Bool.not_eq_false', Bool.not_true, Bool.not_false, Bool.false_eq_true, Bool.true_eq_false, Bool.not_eq_true, Bool.not_eq_false, beq_iff_eq, beq_eq_false_iff_ne, bne_iff_ne, bne_eq_false_iff_eq, ne_eq, Int.not_lt, Int.not_le, ge_iff_le, gt_iff_lt, Decidable.not_not, reduceCtorEq, *] at hc) <;> (try (exfalso; omega)))
    | ((with_reducible apply opsF.und); (case hg => rfl))
    | ((with_reducible apply opsF.callv); (case hf => exact tEV); (case hx => exact tCV))
    | ((with_reducible apply dopsF.op rfl); (case hs => (first | exact tHT | exact tHS)))
    | ((with_reducible apply dopsF.call); (case hx => exact tAG))
    | ((with_reducible apply dopsF.want); (case hg => exact tEV); (case hb => exact tNB))
    | ((with_reducible apply dopsF.skip); (case hg => exact tEV); (case hb => exact tNB))
    | ((with_reducible apply dopsF.und); (case hg => rfl))
    | ((with_reducible apply stabF.und); rfl)
    | ((with_reducible apply stabF.want); (case hg => exact tEV); (case hb => exact tNB))
    | ((with_reducible apply stabF.skip); (case hg => exact tEV); (case hb => exact tNB))
    | ((with_reducible apply stabF.op); (case hs => (first | exact tHT | exact tHS)); (case hv => exact tSV))
    | ((with_reducible apply retF.r); (case hv => exact tRS))
    | ((with_reducible apply retF.nn); (case hv => exact tRS))
    | ((refine (hrc _).mono fun v h1 hp => ?_); obtain ⟨rfl, he1⟩ := hp; have hN := he1.n; have hO := he1.objs; (try simp only [alloc_n, set_n, newTok_n, bump_n] at hN hO))
    | ((refine (hans _).mono fun v h7 hp => ?_); obtain ⟨rfl, he7⟩ := hp; have hN := he7.n; have hO := he7.objs; (try simp only [alloc_n, set_n, newTok_n, bump_n] at hN hO)))
      all_goals simp
  cases hcc : canonO m with
  | none =>
    rw [hcc] at hrc
    simp only [optV] at hrc
    repeat' (first
    | ((with_reducible apply opsF.op rfl); (case hs => (first | exact tHT | exact tHS)))
    | with_reducible (first | apply opsF.nil | apply seqF.nn | apply vcF.seq | apply vcF.region | apply vcF.dregion | apply vcF.skip | apply vcF.block | apply vcF.exit | apply vcF.ret | apply vcF.loop | apply seqF.e | apply seqF.r | apply blkF.nn | apply blkF.e | apply blkF.r | apply blkF.o rfl | apply dopsF.nil | apply stabsF.nil | apply stabsF.cons | apply dopsF.cont)
    | ((with_reducible apply opsF.call); (case hx => exact tAG))
    | ((with_reducible apply opsF.want); (case hg => exact tEV); (case hb => exact tNB))
    | ((with_reducible apply opsF.skip); (case hg => exact tEV); (case hb => exact tNB))
    | (first | ((with_reducible apply opsF.case); (case hg => exact tEV)) | ((with_reducible apply vcF.cond); (case hx => exact tEV)) | ((with_reducible apply dopsF.case); (case hg => exact tEV))) <;> ((intro hc; try simp only [Int.reduceLT, Int.reduceLE, Int.reduceEq, Int.reduceNe, Int.cast_ofNat_Int, Int.reduceNeg, decide_true, decide_false, not_true_eq_false, not_false_eq_true, decide_eq_true_eq, decide_eq_false_iff_not, Bool.not_eq_true', Bool.not_eq_false', Bool.not_true, Bool.not_false, Bool.false_eq_true, Bool.true_eq_false, Bool.not_eq_true, Bool.not_eq_false, beq_iff_eq, beq_eq_false_iff_ne, bne_iff_ne, bne_eq_false_iff_eq, ne_eq, Int.not_lt, Int.not_le, ge_iff_le, gt_iff_lt, Decidable.not_not, reduceCtorEq, *] at hc) <;> (try (exfalso; omega)))
    | ((with_reducible apply opsF.und); (case hg => rfl))
    | ((with_reducible apply opsF.callv); (case hf => exact tEV); (case hx => exact tCV))
    | ((with_reducible apply dopsF.op rfl); (case hs => (first | exact tHT | exact tHS)))
    | ((with_reducible apply dopsF.call); (case hx => exact tAG))
    | ((with_reducible apply dopsF.want); (case hg => exact tEV); (case hb => exact tNB))
    | ((with_reducible apply dopsF.skip); (case hg => exact tEV); (case hb => exact tNB))
    | ((with_reducible apply dopsF.und); (case hg => rfl))
    | ((with_reducible apply stabF.und); rfl)
    | ((with_reducible apply stabF.want); (case hg => exact tEV); (case hb => exact tNB))
    | ((with_reducible apply stabF.skip); (case hg => exact tEV); (case hb => exact tNB))
    | ((with_reducible apply stabF.op); (case hs => (first | exact tHT | exact tHS)); (case hv => exact tSV))
    | ((with_reducible apply retF.r); (case hv => exact tRS))
    | ((with_reducible apply retF.nn); (case hv => exact tRS))
    | ((refine (hrc _).mono fun v h1 hp => ?_); obtain ⟨rfl, he1⟩ := hp; have hN := he1.n; have hO := he1.objs; (try simp only [alloc_n, set_n, newTok_n, bump_n] at hN hO))
    | ((refine (hans _).mono fun v h7 hp => ?_); obtain ⟨rfl, he7⟩ := hp; have hN := he7.n; have hO := he7.objs; (try simp only [alloc_n, set_n, newTok_n, bump_n] at hN hO)))
    all_goals simp
  | some c =>
    rw [hcc] at hrc
    simp only [optV] at hrc
    obtain ⟨j, hj, hj1⟩ : ∃ j : Nat, k.tmod 15 = (j : Int) ∧ j < 15 := by
      rw [Int.tmod_eq_emod_of_nonneg hk0]
      exact ⟨(k % 15).toNat, by omega, by omega⟩
    obtain ⟨t, ht⟩ : ∃ t, tailsO[j]? = some t := ⟨_, List.getElem?_eq_getElem hj1⟩
    obtain ⟨cd, hcd⟩ : ∃ t, codesO[j]? = some t := ⟨_, List.getElem?_eq_getElem hj1⟩
    have htl : t.length ≤ 100 := by
      have : ∀ x ∈ tailsO, x.length ≤ 100 := by decide
      exact this t (List.mem_of_getElem? ht)
    have hok := opts_ok hcc j t cd ht hcd
    have hfo := rcpt_foo hcc
    have hp1 := fun h => Parse_call (w0 := W) hE ((([77, 65, 73, 76, 32, 70, 82, 79, 77, 58, 60] ++ m) ++ [62]) ++ t) h (by simp; omega)
    have hp2 := fun h => Parse_call (w0 := W) hE (([82, 67, 80, 84, 32, 84, 79, 58, 60] ++ m) ++ [62, 32, 70, 79, 79, 61, 49]) h (by simp; omega)
    have hp3 := fun h => Parse_call (w0 := W) hE [82, 67, 80, 84, 32, 84, 79, 58, 60, 62] h (by decide)
    rw [rcpt_none] at hp3
    have htl2 : tailsO.length = 15 := rfl
    have hcl2 : codesO.length = 15 := rfl
    generalize verbS ((([77, 65, 73, 76, 32, 70, 82, 79, 77, 58, 60] ++ m) ++ [62]) ++ t) = q1 at *
    generalize verbS (([82, 67, 80, 84, 32, 84, 79, 58, 60] ++ m) ++ [62, 32, 70, 79, 79, 61, 49]) = q2 at *
    obtain ⟨c1, a1, b1, s1, w1⟩ := q1
    obtain ⟨c2, a2, b2, s2, w2⟩ := q2
    simp only [codeV, verbA, zeroV] at hok hfo hp1 hp2 hp3
    subst hok hfo
    generalize tailsO = T at *
    generalize codesO = C at *
    repeat' (first
    | ((with_reducible apply opsF.op rfl); (case hs => (first | exact tHT | exact tHS)))
    | with_reducible (first | apply opsF.nil | apply seqF.nn | apply vcF.seq | apply vcF.region | apply vcF.dregion | apply vcF.skip | apply vcF.block | apply vcF.exit | apply vcF.ret | apply vcF.loop | apply seqF.e | apply seqF.r | apply blkF.nn | apply blkF.e | apply blkF.r | apply blkF.o rfl | apply dopsF.nil | apply stabsF.nil | apply stabsF.cons | apply dopsF.cont)
    | ((with_reducible apply opsF.call); (case hx => exact tAG))
    | ((with_reducible apply opsF.want); (case hg => exact tEV); (case hb => exact tNB))
    | ((with_reducible apply opsF.skip); (case hg => exact tEV); (case hb => exact tNB))
    | (first | ((with_reducible apply opsF.case); (case hg => exact tEV)) | ((with_reducible apply vcF.cond); (case hx => exact tEV)) | ((with_reducible apply dopsF.case); (case hg => exact tEV))) <;> ((intro hc; try simp only [Int.reduceLT, Int.reduceLE, Int.reduceEq, Int.reduceNe, Int.cast_ofNat_Int, Int.reduceNeg, decide_true, decide_false, not_true_eq_false, not_false_eq_true, decide_eq_true_eq, decide_eq_false_iff_not, Bool.not_eq_true', Bool.not_eq_false', Bool.not_true, Bool.not_false, Bool.false_eq_true, Bool.true_eq_false, Bool.not_eq_true, Bool.not_eq_false, beq_iff_eq, beq_eq_false_iff_ne, bne_iff_ne, bne_eq_false_iff_eq, ne_eq, Int.not_lt, Int.not_le, ge_iff_le, gt_iff_lt, Decidable.not_not, reduceCtorEq, *] at hc) <;> (try (exfalso; omega)))
    | ((with_reducible apply opsF.und); (case hg => rfl))
    | ((with_reducible apply opsF.callv); (case hf => exact tEV); (case hx => exact tCV))
    | ((with_reducible apply dopsF.op rfl); (case hs => (first | exact tHT | exact tHS)))
    | ((with_reducible apply dopsF.call); (case hx => exact tAG))
    | ((with_reducible apply dopsF.want); (case hg => exact tEV); (case hb => exact tNB))
    | ((with_reducible apply dopsF.skip); (case hg => exact tEV); (case hb => exact tNB))
    | ((with_reducible apply dopsF.und); (case hg => rfl))
    | ((with_reducible apply stabF.und); rfl)
    | ((with_reducible apply stabF.want); (case hg => exact tEV); (case hb => exact tNB))
    | ((with_reducible apply stabF.skip); (case hg => exact tEV); (case hb => exact tNB))
    | ((with_reducible apply stabF.op); (case hs => (first | exact tHT | exact tHS)); (case hv => exact tSV))
    | ((with_reducible apply retF.r); (case hv => exact tRS))
    | ((with_reducible apply retF.nn); (case hv => exact tRS))
    | ((refine (hrc _).mono fun v h1 hp => ?_); obtain ⟨rfl, he1⟩ := hp; have hN := he1.n; have hO := he1.objs; (try simp only [alloc_n, set_n, newTok_n, bump_n] at hN hO))
    | ((refine (hp1 _).mono fun v h2 hp => ?_); obtain ⟨rfl, he2⟩ := hp; have hN := he2.n; have hO := he2.objs; (try simp only [alloc_n, set_n, newTok_n, bump_n] at hN hO))
    | ((refine (hp2 _).mono fun v h3 hp => ?_); obtain ⟨rfl, he3⟩ := hp; have hN := he3.n; have hO := he3.objs; (try simp only [alloc_n, set_n, newTok_n, bump_n] at hN hO))
    | ((refine (hp3 _).mono fun v h4 hp => ?_); obtain ⟨rfl, he4⟩ := hp; have hN := he4.n; have hO := he4.objs; (try simp only [alloc_n, set_n, newTok_n, bump_n] at hN hO))
    | ((refine (hans _).mono fun v h7 hp => ?_); obtain ⟨rfl, he7⟩ := hp; have hN := he7.n; have hO := he7.objs; (try simp only [alloc_n, set_n, newTok_n, bump_n] at hN hO))
    | ((with_reducible apply opsF.op n1); (case hs => with_reducible exact r1 _ _))
    | ((with_reducible apply opsF.op n2); (case hs => with_reducible exact r2 _ _)))
    all_goals simp
theorem u8_in {n : Int} (h : (Lit.int .u8 n).wf = true) : 0 ≤ n ∧ n < 256 := by
  simp [Lit.wf, IntKind.min, IntKind.max, IntKind.signed, IntKind.bits] at h
  exact ⟨by omega, by omega⟩
theorem law_VerbOptions (W : World) (hL : laidMetH P Go.Proofs.YtbakofbljfhoiaaDoor.Rows.verbOptionsRow.laid W) (x0 : (Ty.int .u8).D) (h0 : (Ty.int .u8).wf x0) (g0 : (Ty.int .u8).fit 140737488351232 x0) (x1 : Ty.str.D) (h1 : Ty.str.wf x1) (g1 : Ty.str.fit 140737488351232 x1) :
    Call P W law03_VerbOptions [(Ty.int .u8).val x0, Ty.str.val x1] AH.start fun v _ => v = .v (.bool true) :=
  Call.bodyF b_vo rfl (by kernel_rfl) (options_main W (errVars_of hL (by kernel_rfl) (by kernel_rfl)) tlO tlC tlO_nc tlC_nc tlO_run tlC_run x0 (u8_in h0).1 (u8_in h0).2 x1 g1)
end Go.Abs.F
