/- Layer 26: the first line that is none is told. -/
import Derived.Test.YthmfeheegoalfaaDoorLwB
namespace Go.Abs.F
open Go Go.Abs
set_option maxRecDepth 10000
set_option maxHeartbeats 20000000
set_option linter.unusedSimpArgs false
set_option linter.unusedVariables false
variable {w0 : World}
theorem u8_wf {n : Int} (h : (Lit.int .u8 n).wf = true) : 0 ≤ n ∧ n ≤ 255 := by
  simp [Lit.wf, IntKind.min, IntKind.max, IntKind.signed, IntKind.bits] at h
  exact ⟨by omega, by omega⟩
def tailsL : List (List UInt8) := [[115, 116, 101, 112], [115, 116, 101, 112, 32, 49, 32, 50, 32, 51], [115, 116, 101, 112, 32, 49, 32, 50, 32, 51, 32, 120, 48], [115, 116, 101, 112, 32, 48, 49, 32, 48, 32, 48, 32, 120], [115, 116, 101, 112, 32, 43, 49, 32, 48, 32, 48, 32, 120], [115, 116, 101, 112, 32, 49, 32, 48, 32, 48, 32, 32, 120], [114, 111, 111, 109, 32, 49], [], [115, 116, 101, 112, 32, 49, 32, 48, 32, 48, 32, 120, 65, 66], [115, 116, 101, 112, 32, 49, 32, 48, 32, 48, 32, 120, 32, 120], [115, 116, 111, 112, 32, 49, 32, 48, 32, 48, 32, 120]]
theorem stepQ_n1 {A B : Option Int} {T : Option (List UInt8)} : stepQ none A B T = none := by cases A <;> cases B <;> cases T <;> rfl
theorem stepQ_n4 {K A B : Option Int} : stepQ K A B none = none := by cases K <;> cases A <;> cases B <;> rfl
theorem num01 : numO [48, 49] = none := by
  have h : Lib.atoiAll [48, 49] = .ok 1 := by decide
  rw [numO, h]
  simp [decS, udecS]
theorem numP1 : numO [43, 49] = none := by
  have h : Lib.atoiAll [43, 49] = .ok 1 := by decide
  rw [numO, h]
  simp [decS, udecS]
theorem tails_bad : ∀ t ∈ tailsL, (10 : UInt8) ∉ t ∧ stepO (splB 32 t) = none ∧ t.length ≤ 20 := by
  intro t ht
  simp only [tailsL, List.mem_cons, List.not_mem_nil, or_false] at ht
  rcases ht with rfl | rfl | rfl | rfl | rfl | rfl | rfl | rfl | rfl | rfl | rfl
  · exact ⟨by decide, rfl, by decide⟩
  · exact ⟨by decide, rfl, by decide⟩
  · refine ⟨by decide, ?_, by decide⟩
    show stepO [[115, 116, 101, 112], [49], [50], [51], [120, 48]] = none
    have : textO [120, 48] = none := by decide
    rw [stepO_q, this, stepQ_n4]
  · refine ⟨by decide, ?_, by decide⟩
    show stepO [[115, 116, 101, 112], [48, 49], [48], [48], [120]] = none
    rw [stepO_q, num01, stepQ_n1]
  · refine ⟨by decide, ?_, by decide⟩
    show stepO [[115, 116, 101, 112], [43, 49], [48], [48], [120]] = none
    rw [stepO_q, numP1, stepQ_n1]
  · exact ⟨by decide, rfl, by decide⟩
  · exact ⟨by decide, rfl, by decide⟩
  · exact ⟨by decide, rfl, by decide⟩
  · refine ⟨by decide, ?_, by decide⟩
    show stepO [[115, 116, 101, 112], [49], [48], [48], [120, 65, 66]] = none
    have : textO [120, 65, 66] = none := by decide
    rw [stepO_q, this, stepQ_n4]
  · exact ⟨by decide, rfl, by decide⟩
  · refine ⟨by decide, ?_, by decide⟩
    show stepO [[115, 116, 111, 112], [49], [48], [48], [120]] = none
    rw [stepO, if_neg (by decide)]
def tlL : IOp := .lit 1 11 [.v (.string (bs []))] [(0, .cst (.v (.string (bs [115, 116, 101, 112])))), (1, .cst (.v (.string (bs [115, 116, 101, 112, 32, 49, 32, 50, 32, 51])))), (2, .cst (.v (.string (bs [115, 116, 101, 112, 32, 49, 32, 50, 32, 51, 32, 120, 48])))), (3, .cst (.v (.string (bs [115, 116, 101, 112, 32, 48, 49, 32, 48, 32, 48, 32, 120])))), (4, .cst (.v (.string (bs [115, 116, 101, 112, 32, 43, 49, 32, 48, 32, 48, 32, 120])))), (5, .cst (.v (.string (bs [115, 116, 101, 112, 32, 49, 32, 48, 32, 48, 32, 32, 120])))), (6, .cst (.v (.string (bs [114, 111, 111, 109, 32, 49])))), (7, .cst (.v (.string (bs [])))), (8, .cst (.v (.string (bs [115, 116, 101, 112, 32, 49, 32, 48, 32, 48, 32, 120, 65, 66])))), (9, .cst (.v (.string (bs [115, 116, 101, 112, 32, 49, 32, 48, 32, 48, 32, 120, 32, 120])))), (10, .cst (.v (.string (bs [115, 116, 111, 112, 32, 49, 32, 48, 32, 48, 32, 120]))))]
noncomputable def c_ln (t1 : IOp) : IC := .seq (.region [⟨some 8, .mv (.cst (.v (.bool .false))), none⟩]) (.seq (.seq (.region [⟨some 16, .mv (.tmp 1), none⟩, ⟨some 17, .call law26_small [.tmp 16], none⟩, ⟨some 18, .un .not (.tmp 17), none⟩, ⟨some 19, .mv (.tmp 18), none⟩, ⟨some 20, .mv (.tmp 0), some (19, .false)⟩, ⟨some 21, .mv (.tmp 1), some (19, .false)⟩, ⟨some 22, .call ref26_Good [.tmp 20, .tmp 21], some (19, .false)⟩, ⟨some 23, .un .not (.tmp 22), some (19, .false)⟩, ⟨some 24, .pick (.tmp 19) (.cst (.v (.bool .true))) (.tmp 23), none⟩]) (.cond (.tmp 24) (.seq (.region [⟨some 25, .call law26_answers [], none⟩, ⟨some 8, .mv (.tmp 25), none⟩]) .ret) .skip)) (.seq (.region [⟨some 26, t1, none⟩, ⟨some 9, .mv (.tmp 26), none⟩]) (.seq (.region [⟨some 27, .mv (.tmp 2), none⟩, ⟨some 28, .convI .i64 (.tmp 27), none⟩, ⟨some 29, .mv (.tmp 1), none⟩, ⟨some 30, .len .sl (.tmp 29), none⟩, ⟨some 31, .bin .add .other (.tmp 30) (.cst (.v (.int .i64 1))), none⟩, ⟨some 32, .bin .rem .other (.tmp 28) (.tmp 31), none⟩, ⟨some 10, .mv (.tmp 32), none⟩]) (.seq (.dregion [(⟨some 33, .mv (.tmp 0), none⟩, []), (⟨some 34, .mv (.tmp 1), none⟩, []), (⟨some 35, .mv (.tmp 10), none⟩, []), (⟨some 36, .slL 4 (.tmp 34) none (some (.tmp 35)) none, none⟩, []), (⟨some 38, .mv (.tmp 9), none⟩, []), (⟨some 39, .mv (.tmp 3), none⟩, []), (⟨some 40, .bin .rem .other (.tmp 39) (.cst (.v (.int .u8 11))), none⟩, []), (⟨some 41, .iaL 1 (.tmp 38) (.tmp 40), none⟩, []), (⟨some 42, .load (.tmp 41) none, none⟩, []), (⟨some 45, .mv (.tmp 0), none⟩, []), (⟨some 46, .mv (.tmp 1), none⟩, []), (⟨some 47, .mv (.tmp 10), none⟩, []), (⟨some 48, .slL 4 (.tmp 46) (some (.tmp 47)) none none, none⟩, []), (⟨some 37, .call ref26_Print [.tmp 33, .tmp 36], none⟩, [⟨some 42, .load (.tmp 41) none, none⟩]), (⟨some 43, .bin .add .other (.tmp 37) (.tmp 42), none⟩, []), (⟨some 44, .bin .add .other (.tmp 43) (.cst (.v (.string (bs [10])))), none⟩, []), (⟨some 49, .call ref26_Print [.tmp 45, .tmp 48], none⟩, [⟨some 42, .load (.tmp 41) none, none⟩]), (⟨some 50, .bin .add .other (.tmp 44) (.tmp 49), none⟩, []), (⟨some 11, .mv (.tmp 50), none⟩, [])]) (.seq (.region [⟨some 52, .mv (.tmp 11), none⟩, ⟨some 53, .call script_Parse [.tmp 52], none⟩, ⟨some 51, .mv (.tmp 53), none⟩, ⟨some 54, .ext (.tmp 51) 0, none⟩, ⟨some 55, .ext (.tmp 51) 1, none⟩, ⟨some 56, .ext (.tmp 51) 2, none⟩, ⟨some 57, .ext (.tmp 51) 3, none⟩, ⟨some 12, .mv (.tmp 54), none⟩, ⟨some 13, .mv (.tmp 55), none⟩, ⟨some 14, .mv (.tmp 56), none⟩, ⟨some 15, .mv (.tmp 57), none⟩]) (.seq (.region [⟨some 58, .call law26_answers [], none⟩, ⟨some 59, .mv (.tmp 58), none⟩, ⟨some 60, .mv (.tmp 15), some (59, .true)⟩, ⟨some 61, .bin .eql .other (.tmp 60) (.cst (.v (.int .i64 7))), some (59, .true)⟩, ⟨some 62, .pick (.tmp 59) (.tmp 61) (.cst (.v (.bool .false))), none⟩, ⟨some 63, .mv (.tmp 62), none⟩, ⟨some 64, .mv (.tmp 14), some (63, .true)⟩, ⟨some 65, .mv (.tmp 10), some (63, .true)⟩, ⟨some 66, .bin .add .other (.tmp 65) (.cst (.v (.int .i64 2))), some (63, .true)⟩, ⟨some 67, .bin .eql .other (.tmp 64) (.tmp 66), some (63, .true)⟩, ⟨some 68, .pick (.tmp 63) (.tmp 67) (.cst (.v (.bool .false))), none⟩, ⟨some 69, .mv (.tmp 68), none⟩, ⟨some 70, .mv (.tmp 13), some (69, .true)⟩, ⟨some 71, .len .sl (.tmp 70), some (69, .true)⟩, ⟨some 72, .bin .eql .other (.tmp 71) (.cst (.v (.int .i64 0))), some (69, .true)⟩, ⟨some 73, .pick (.tmp 69) (.tmp 72) (.cst (.v (.bool .false))), none⟩, ⟨some 74, .mv (.tmp 73), none⟩, ⟨some 75, .mv (.tmp 12), some (74, .true)⟩, ⟨some 76, .bin .eql .other (.tmp 75) (.cst (.v (.int .i64 0))), some (74, .true)⟩, ⟨some 77, .pick (.tmp 74) (.tmp 76) (.cst (.v (.bool .false))), none⟩, ⟨some 8, .mv (.tmp 77), none⟩]) .ret))))))
theorem b_ln : HasBody P law26_ScriptLine 78 (c_ln tlL) [.tmp 8] := (show c_law26_ScriptLine = c_ln tlL by kernel_rfl) ▸ b_law26_ScriptLine
theorem tlL_run (σ : Fm) (h : AH) : istep tlL (evF σ) h = some (.list 1 (srows tailsL) .full, h) := by kernel_rfl
theorem tlL_nc : tlL.noCall = true := by kernel_rfl
theorem trows_take (l : List St) (n : Nat) : (trows l).take n = trows (l.take n) := by simp [trows, List.map_take]
theorem trows_drop (l : List St) (n : Nat) : (trows l).drop n = trows (l.drop n) := by simp [trows, List.map_drop]
theorem StOk.sub {l m : List St} (h : StOk l) (hs : ∀ x ∈ m, x ∈ l) (hl : m.length ≤ l.length) : StOk m :=
  ⟨Nat.le_trans hl h.len, fun x hx => h.txt x (hs x hx), fun x hx => h.rk x (hs x hx), fun x hx => h.ra x (hs x hx), fun x hx => h.rb x (hs x hx)⟩
theorem LsIn.sub {l m : List St} (h : LsIn l) (hs : ∀ x ∈ m, x ∈ l) (hl : m.length ≤ l.length) : LsIn m :=
  ⟨Nat.le_trans hl h.len, fun x hx => h.txt x (hs x hx), fun x hx => h.rk x (hs x hx), fun x hx => h.ra x (hs x hx), fun x hx => h.rb x (hs x hx)⟩
theorem line_main (W : World) (hT : PowTab W) (hE : ErrVars W) (t1 : IOp) (nc : t1.noCall = true) (r1 : ∀ (σ : Fm) (h : AH), istep t1 (evF σ) h = some (.list 1 (srows tailsL) .full, h)) (n : Int) (hn : inR n) (ls : List St) (hl : LsIn ls) (a b : Nat) (ha : a ≤ 255) (hb : b ≤ 255) :
    vcF P W 78 (c_ln t1) (retF [.tmp 8] fun v _ => v = .v (.bool true)) (argF [.v (.int .i64 n), .list 4 (trows ls) .no, .v (.int .u8 (a : Nat)), .v (.int .u8 (b : Nat))]) AH.start := by
  have xl := trows_len
  have xt := trows_take
  have xd := trows_drop
  have xs := srows_len
  have xg := srows_get
  have hsm := fun h => small_call (w0 := W) ls .no h (by have := hl.len; omega) (fun x hx => by have := hl.txt x hx; omega)
  have hans := fun h => answers_call (w0 := W) hT hE h
  unfold c_ln
  cases hs : smallS ls with
  | false =>
    rw [hs] at hsm
    repeat' (first
    | ((with_reducible apply opsF.op rfl); (case hs => (first | exact tHT | exact tHS)))
    | with_reducible (first | apply opsF.nil | apply seqF.nn | apply vcF.seq | apply vcF.region | apply vcF.dregion | apply vcF.skip | apply vcF.block | apply vcF.exit | apply vcF.ret | apply vcF.loop | apply seqF.e | apply seqF.r | apply blkF.nn | apply blkF.e | apply blkF.r | apply blkF.o rfl | apply dopsF.nil | apply stabsF.nil | apply stabsF.cons | apply dopsF.cont)
    | ((with_reducible apply opsF.call); (case hx => exact tAG))
    | ((with_reducible apply opsF.want); (case hg => exact tEV); (case hb => exact tNB))
    | ((with_reducible apply opsF.skip); (case hg => exact tEV); (case hb => exact tNB))
    | (first | ((with_reducible apply opsF.case); (case hg => exact tEV)) | ((with_reducible apply vcF.cond); (case hx => exact tEV)) | ((with_reducible apply dopsF.case); (case hg => exact tEV))) <;> ((intro hc; try simp only [Int.reduceLT, Int.reduceLE, Int.reduceEq, Int.reduceNe, Int.cast_ofNat_Int, Int.reduceNeg, decide_true, decide_false, not_true_eq_false, not_false_eq_true, decide_eq_true_eq, decide_eq_false_iff_not, Bool.not_eq_true', Bool.not_eq_false', Bool.not_true, Bool.not_false, Bool.false_eq_true, Bool.true_eq_false, Bool.not_eq_true, Bool.not_eq_false, beq_iff_eq, beq_eq_false_iff_ne, bne_iff_ne, bne_eq_false_iff_eq, ne_eq, Int.not_lt, Int.not_le, ge_iff_le, gt_iff_lt, Decidable.not_not, reduceCtorEq, *] at hc) <;> (try (exfalso; omega)))
    | ((with_reducible apply opsF.und); (case hg => rfl))
    | ((with_reducible apply opsF.callv); (case hf => exact tEV); (case hx => exact tCV))
    | ((with_reducible apply dopsF.op rfl); (case hs => (first | exact tHT | exact tHS)))
    | ((with_reducible apply dopsF.call); (case hx => exact tAG))
    | ((with_reducible apply dopsF.want); (case hg => exact tEV); (case hb => exact tNB))
    | ((with_reducible apply dopsF.skip); (case hg => exact tEV); (case hb => exact tNB))
    | ((with_reducible apply dopsF.und); (case hg => rfl))
    | ((with_reducible apply stabF.und); rfl)
    | ((with_reducible apply stabF.want); (case hg => exact tEV); (case hb => exact tNB))
    | ((with_reducible apply stabF.skip); (case hg => exact tEV); (case hb => exact tNB))
    | ((with_reducible apply stabF.op); (case hs => (first | exact tHT | exact tHS)); (case hv => exact tSV))
    | ((with_reducible apply retF.r); (case hv => exact tRS))
    | ((with_reducible apply retF.nn); (case hv => exact tRS))
    | ((refine (hsm _).mono fun v h1 hp => ?_); obtain ⟨rfl, rfl⟩ := hp)
    | ((refine (hans _).mono fun v h1 hp => ?_); obtain ⟨rfl, he⟩ := hp; have hN := he.n; have hO := he.objs; (try simp only [alloc_n, set_n, newTok_n, bump_n] at hN hO)))
    all_goals rfl
  | true =>
    have hok := hl.ok hs
    rw [hs] at hsm
    rw [smallS, decide_eq_true_eq] at hs
    cases hg : goodS n ls with
    | false =>
      repeat' (first
    | ((with_reducible apply opsF.op rfl); (case hs => (first | exact tHT | exact tHS)))
    | with_reducible (first | apply opsF.nil | apply seqF.nn | apply vcF.seq | apply vcF.region | apply vcF.dregion | apply vcF.skip | apply vcF.block | apply vcF.exit | apply vcF.ret | apply vcF.loop | apply seqF.e | apply seqF.r | apply blkF.nn | apply blkF.e | apply blkF.r | apply blkF.o rfl | apply dopsF.nil | apply stabsF.nil | apply stabsF.cons | apply dopsF.cont)
    | ((with_reducible apply opsF.call); (case hx => exact tAG))
    | ((with_reducible apply opsF.want); (case hg => exact tEV); (case hb => exact tNB))
    | ((with_reducible apply opsF.skip); (case hg => exact tEV); (case hb => exact tNB))
    | (first | ((with_reducible apply opsF.case); (case hg => exact tEV)) | ((with_reducible apply vcF.cond); (case hx => exact tEV)) | ((with_reducible apply dopsF.case); (case hg => exact tEV))) <;> ((intro hc; try simp only [Int.reduceLT, Int.reduceLE, Int.reduceEq, Int.reduceNe, Int.cast_ofNat_Int, Int.reduceNeg, decide_true, decide_false, not_true_eq_false, not_false_eq_true, decide_eq_true_eq, decide_eq_false_iff_not, Bool.not_eq_true', Bool.not_eq_false', Bool.not_true, Bool.not_false, Bool.false_eq_true, Bool.true_eq_false, Bool.not_eq_true, Bool.not_eq_false, beq_iff_eq, beq_eq_false_iff_ne, bne_iff_ne, bne_eq_false_iff_eq, ne_eq, Int.not_lt, Int.not_le, ge_iff_le, gt_iff_lt, Decidable.not_not, reduceCtorEq, *] at hc) <;> (try (exfalso; omega)))
    | ((with_reducible apply opsF.und); (case hg => rfl))
    | ((with_reducible apply opsF.callv); (case hf => exact tEV); (case hx => exact tCV))
    | ((with_reducible apply dopsF.op rfl); (case hs => (first | exact tHT | exact tHS)))
    | ((with_reducible apply dopsF.call); (case hx => exact tAG))
    | ((with_reducible apply dopsF.want); (case hg => exact tEV); (case hb => exact tNB))
    | ((with_reducible apply dopsF.skip); (case hg => exact tEV); (case hb => exact tNB))
    | ((with_reducible apply dopsF.und); (case hg => rfl))
    | ((with_reducible apply stabF.und); rfl)
    | ((with_reducible apply stabF.want); (case hg => exact tEV); (case hb => exact tNB))
    | ((with_reducible apply stabF.skip); (case hg => exact tEV); (case hb => exact tNB))
    | ((with_reducible apply stabF.op); (case hs => (first | exact tHT | exact tHS)); (case hv => exact tSV))
    | ((with_reducible apply retF.r); (case hv => exact tRS))
    | ((with_reducible apply retF.nn); (case hv => exact tRS))
    | ((refine (hsm _).mono fun v h1 hp => ?_); obtain ⟨rfl, rfl⟩ := hp)
    | ((refine (hans _).mono fun v h1 hp => ?_); obtain ⟨rfl, he⟩ := hp; have hN := he.n; have hO := he.objs; (try simp only [alloc_n, set_n, newTok_n, bump_n] at hN hO))
    | ((refine (rgood_call n ls .no _ (by omega)).mono fun v h1 hp => ?_); rw [hg] at hp; obtain ⟨rfl, he⟩ := hp; have hN := he.n; have hO := he.objs; (try simp only [alloc_n, set_n, newTok_n, bump_n] at hN hO)))
      all_goals rfl
    | true =>
      have hkr : a % (ls.length + 1) < ls.length + 1 := Nat.mod_lt _ (by omega)
      have hq1 : Int.tmod (a : Int) ((ls.length : Int) + 1) = ((a % (ls.length + 1) : Nat) : Int) := by rw [Int.tmod_eq_emod_of_nonneg (by omega)]; norm_cast
      have hq2 : Int.tmod (b : Int) 11 = ((b % 11 : Nat) : Int) := by rw [Int.tmod_eq_emod_of_nonneg (by omega)]; rfl
      have hbr : b % 11 < 11 := Nat.mod_lt _ (by omega)
      have htl : tailsL.length = 11 := rfl
      obtain ⟨t, htm⟩ : ∃ t, tailsL[b % 11]? = some t := ⟨_, List.getElem?_eq_getElem (by omega)⟩
      obtain ⟨tb1, tb2, tb3⟩ := tails_bad t (List.mem_of_getElem? htm)
      generalize a % (ls.length + 1) = k at *
      generalize b % 11 = j at *
      generalize tailsL = T at *
      have hdk : (ls.drop k).take (ls.length - k) = ls.drop k := List.take_of_length_le (by simp)
      have hst : ∀ x ∈ ls.take k, x ∈ ls := fun x hx => List.mem_of_mem_take hx
      have hsd : ∀ x ∈ ls.drop k, x ∈ ls := fun x hx => List.mem_of_mem_drop hx
      have hp1 := fun h tk => rprint_call (w0 := W) n (ls.take k) tk h hn (hok.sub hst (by simp; omega))
      have hp2 := fun h tk => rprint_call (w0 := W) n (ls.drop k) tk h hn (hok.sub hsd (by simp))
      have hgk : goodS n (ls.take k) = true := by
        simp only [goodS, Bool.and_eq_true, List.all_eq_true] at hg ⊢
        exact ⟨hg.1, fun x hx => hg.2 x (hst x hx)⟩
      have hlk : (ls.take k).length = k := by simp; omega
      have hps := parseS_line (n' := n) (l' := []) hgk tb1 tb2 (r := printS n (ls.drop k))
      rw [hlk] at hps
      have hL1 := printS_le hn (hl.sub hst (by simp; omega))
      have hL2 := printS_le hn (hl.sub hsd (by simp))
      have hx1 := txtSum_take ls k
      have hx2 : txtSum (ls.drop k) ≤ txtSum ls := by
        conv => rhs; rw [← List.take_append_drop k ls, txtSum_app]
        omega
      have hx3 : (ls.drop k).length ≤ ls.length := by simp
      have hpa := fun h => parse_call (w0 := W) hT hE (printS n (ls.take k) ++ t ++ 10 :: printS n (ls.drop k)) h (by simp only [List.length_append, List.length_cons]; omega)
      rw [hps] at hpa
      have hk0 : ¬ k + 2 = 0 := by omega
      have htr : trows [] = [] := rfl
      simp only [parV, if_neg hk0, htr] at hpa
      have happ : ((printS n (ls.take k) ++ t) ++ [10]) ++ printS n (ls.drop k) = printS n (ls.take k) ++ t ++ 10 :: printS n (ls.drop k) := by simp
      generalize printS n (ls.take k) = s1 at *
      generalize printS n (ls.drop k) = s2 at *
      repeat' (first
    | ((with_reducible apply opsF.op rfl); (case hs => (first | exact tHT | exact tHS)))
    | with_reducible (first | apply opsF.nil | apply seqF.nn | apply vcF.seq | apply vcF.region | apply vcF.dregion | apply vcF.skip | apply vcF.block | apply vcF.exit | apply vcF.ret | apply vcF.loop | apply seqF.e | apply seqF.r | apply blkF.nn | apply blkF.e | apply blkF.r | apply blkF.o rfl | apply dopsF.nil | apply stabsF.nil | apply stabsF.cons | apply dopsF.cont)
    | ((with_reducible apply opsF.call); (case hx => exact tAG))
    | ((with_reducible apply opsF.want); (case hg => exact tEV); (case hb => exact tNB))
    | ((with_reducible apply opsF.skip); (case hg => exact tEV); (case hb => exact tNB))
    | (first | ((with_reducible apply opsF.case); (case hg => exact tEV)) | ((with_reducible apply vcF.cond); (case hx => exact tEV)) | ((with_reducible apply dopsF.case); (case hg => exact tEV))) <;> ((intro hc; try simp only [Int.reduceLT, Int.reduceLE, Int.reduceEq, Int.reduceNe, Int.cast_ofNat_Int, Int.reduceNeg, decide_true, decide_false, not_true_eq_false, not_false_eq_true, decide_eq_true_eq, decide_eq_false_iff_not, Bool.not_eq_true', Bool.not_eq_false', Bool.not_true, Bool.not_false, Bool.false_eq_true, Bool.true_eq_false, Bool.not_eq_true, Bool.not_eq_false, beq_iff_eq, beq_eq_false_iff_ne, bne_iff_ne, bne_eq_false_iff_eq, ne_eq, Int.not_lt, Int.not_le, ge_iff_le, gt_iff_lt, Decidable.not_not, reduceCtorEq, *] at hc) <;> (try (exfalso; omega)))
    | ((with_reducible apply opsF.und); (case hg => rfl))
    | ((with_reducible apply opsF.callv); (case hf => exact tEV); (case hx => exact tCV))
    | ((with_reducible apply dopsF.op rfl); (case hs => (first | exact tHT | exact tHS)))
    | ((with_reducible apply dopsF.call); (case hx => exact tAG))
    | ((with_reducible apply dopsF.want); (case hg => exact tEV); (case hb => exact tNB))
    | ((with_reducible apply dopsF.skip); (case hg => exact tEV); (case hb => exact tNB))
    | ((with_reducible apply dopsF.und); (case hg => rfl))
    | ((with_reducible apply stabF.und); rfl)
    | ((with_reducible apply stabF.want); (case hg => exact tEV); (case hb => exact tNB))
    | ((with_reducible apply stabF.skip); (case hg => exact tEV); (case hb => exact tNB))
    | ((with_reducible apply stabF.op); (case hs => (first | exact tHT | exact tHS)); (case hv => exact tSV))
    | ((with_reducible apply retF.r); (case hv => exact tRS))
    | ((with_reducible apply retF.nn); (case hv => exact tRS))
    | ((with_reducible apply opsF.op nc); (case hs => with_reducible exact r1 _ _))
    | ((refine (hsm _).mono fun v h1 hp => ?_); obtain ⟨rfl, rfl⟩ := hp)
    | ((refine (hans _).mono fun v h1 hp => ?_); obtain ⟨rfl, he⟩ := hp; have hN := he.n; have hO := he.objs; (try simp only [alloc_n, set_n, newTok_n, bump_n] at hN hO))
    | ((refine (rgood_call n ls .no _ (by omega)).mono fun v h1 hp => ?_); rw [hg] at hp; obtain ⟨rfl, he⟩ := hp; have hN := he.n; have hO := he.objs; (try simp only [alloc_n, set_n, newTok_n, bump_n] at hN hO))
    | ((refine (hp1 _ _).mono fun v h1 hp => ?_); obtain ⟨rfl, he⟩ := hp; have hN := he.n; have hO := he.objs; (try simp only [alloc_n, set_n, newTok_n, bump_n] at hN hO))
    | ((refine (hp2 _ _).mono fun v h1 hp => ?_); obtain ⟨rfl, he⟩ := hp; have hN := he.n; have hO := he.objs; (try simp only [alloc_n, set_n, newTok_n, bump_n] at hN hO))
    | ((refine (hpa _).mono fun v h1 hp => ?_); obtain ⟨⟨tk, rfl⟩, he⟩ := hp; have hN := he.n; have hO := he.objs; (try simp only [alloc_n, set_n, newTok_n, bump_n] at hN hO)))
      all_goals simp
theorem law_ScriptLine (W : World) (hL : laidMetH P Go.Proofs.YthmfeheegoalfaaDoor.Rows.scriptLineRow.laid W) (x0 : (Ty.int .i64).D) (h0 : (Ty.int .i64).wf x0) (g0 : (Ty.int .i64).fit 140737488351232 x0)
    (x1 : (Ty.slice StT).D) (h1 : (Ty.slice StT).wf x1) (g1 : (Ty.slice StT).fit 140737488351232 x1) (x2 : (Ty.int .u8).D) (h2 : (Ty.int .u8).wf x2) (g2 : (Ty.int .u8).fit 140737488351232 x2) (x3 : (Ty.int .u8).D) (h3 : (Ty.int .u8).wf x3) (g3 : (Ty.int .u8).fit 140737488351232 x3) :
    Call P W law26_ScriptLine [(Ty.int .i64).val x0, (Ty.slice StT).val x1, (Ty.int .u8).val x2, (Ty.int .u8).val x3] AH.start fun v _ => v = .v (.bool true) := by
  obtain ⟨ls, e, hls⟩ := steps_ty x1 h1 g1
  have ha := u8_wf h2
  have hb := u8_wf h3
  have m := line_main W (powTab_of hL (by kernel_rfl)) (errVars_of hL (by kernel_rfl) (by kernel_rfl)) tlL tlL_nc tlL_run x0 (inR_wf h0) ls hls (Int.toNat x2) (Int.toNat x3) (by omega) (by omega)
  rw [Int.toNat_of_nonneg ha.1, Int.toNat_of_nonneg hb.1] at m
  rw [e]
  exact Call.bodyF b_ln rfl (by kernel_rfl) m
end Go.Abs.F
