/- strconv.Itoa by the shelf's contract; worlds that have grown. -/
import Derived.Test.YtelflknhanpldaaDoorRep6
import Derived.Test.YtelflknhanpldaaDoorShelf
import Derived.Test.YtelflknhanpldaaDoorRows
import Derived.Lib.AppendIntMem
import Derived.LaidSub
import Derived.LaidHandle
import Derived.MakeChecks
import Derived.ProofKit
set_option linter.unusedVariables false
namespace Go.Abs
open Go Go.RowKit
/-- The world has grown; nothing of it has turned. -/
theorem WR.grown {w0 : World} {Γ : Con} {h : AH} {w w' : World} (H : WR w0 Γ h w) (hb : Below w.heap.size w w') : WR w0 Γ h w' where
  below := ⟨hb.os.trans H.below.os, hb.tape.trans H.below.tape, hb.output.trans H.below.output, Nat.le_trans H.below.size hb.size, fun k hk => (hb.block k (Nat.lt_of_lt_of_le hk H.below.size)).trans (H.below.block k hk)⟩
  fcell := fun hx => (World.cell?_of_block (hb.block _ (H.flt hx))).trans (H.fcell hx)
  obj := fun ho => by
    obtain ⟨b, h1, h2, h3, h4⟩ := H.obj ho
    exact ⟨b, h1, h2, h3.at_ (hb.block _ h3.lt), h4⟩
  inj := H.inj
  rlt := fun hi => ⟨(H.rlt hi).1, Nat.lt_of_lt_of_le (H.rlt hi).2 hb.size⟩
  tok := fun ht => by
    obtain ⟨h1, ⟨h2, vs, e, fr, h3, h4, h5⟩, h6⟩ := H.tok ht
    exact ⟨h1, ⟨h2, vs, e, fr, (hb.block _ (size_pos_of h3)).trans h3, h4, h5⟩, h6⟩
  tinj := H.tinj
  tnew := H.tnew
  shp := fun h1 h2 h3 => by
    obtain ⟨vs, fr, h4, h5⟩ := H.shp h1 h2 h3
    exact ⟨vs, fr, (hb.block _ (size_pos_of h4)).trans h4, h5⟩
/-- A function that gives a plain value and leaves what was there. -/
theorem Call.plain {P : Program} {w0 : World} {f : FuncId} {args : List AV} {h : AH} {x : Value} {vs : List Value} (hcall : callable P f) (ha : args = vs.map AV.v) (hc : ∀ (Γ : Con) (w : World), WR w0 Γ h w → Calls P f vs.toArray w fun e w' => e = .returned x ∧ Below w.heap.size w w') : Call P w0 f args h (fun v h' => v = .v x ∧ h' = h) := by
  refine ⟨hcall, fun Γ w us H hv => ?_⟩
  have hu : us = vs := by
    subst ha
    have hl := hv.len
    simp only [List.length_map] at hl
    refine List.ext_getElem hl fun i h1 h2 => ?_
    have := hv.at_ i (by simpa using h2) h1
    simp only [List.getElem_map] at this
    exact this.inv_v
  subst hu
  refine (hc Γ w H).mono fun e w' hh => ?_
  obtain ⟨rfl, hb⟩ := hh
  exact ⟨_, Γ, _, h, rfl, .refl Γ, .v _, H.grown hb, rfl, rfl⟩
end Go.Abs
namespace Go.Abs.F
open Go Go.Abs
variable {w0 : World}
theorem decDigits_udecS (n : Nat) : Lib.decDigits n = udecS n := by
  induction n using Nat.strongRecOn with
  | _ n ih =>
    rw [Lib.decDigits, udecS]
    split
    · rfl
    · rw [ih (n / 10) (by omega)]
abbrev PowTab (w : World) : Prop := Lib.TabIs P w "internal/strconv.uint64pow10" .u64 Lib.pow10Tab
theorem PowTab.below {w0 w : World} {Γ : Con} {h : AH} (hT : PowTab w0) (H : WR w0 Γ h w) : PowTab w := by
  unfold PowTab Lib.TabIs at hT ⊢
  unfold World.var? at hT ⊢
  cases hg : P.globalNamed "internal/strconv.uint64pow10" with
  | none => rw [hg] at hT; cases hT
  | some g =>
    rw [hg] at hT
    simp only [Option.bind_some] at hT ⊢
    have hlt : g < w0.heap.size := by
      rcases Nat.lt_or_ge g w0.heap.size with h1 | h1
      · exact h1
      · rw [Array.getElem?_eq_none h1] at hT
        cases hT
    rw [H.below.block g hlt]
    exact hT
theorem itoa_call (hT : PowTab w0) (n : Nat) (h : AH) (hn : n ≤ 9223372036854775807) : Call P w0 strconv_Itoa [.v (.int .i64 (n : Int))] h (fun v h' => v = .v (.string (bs (udecS n))) ∧ h' = h) := by
  refine Call.plain (vs := [.int .i64 (n : Int)]) ⟨_, Go.Proofs.Tryd.func26, by kernel_rfl, by kernel_rfl⟩ rfl fun Γ w H => ?_
  refine (Go.Proofs.Tryd.strconv_Itoa (n : Int) (by omega) (by omega) w (hT.below H)).mono fun e w' hh => ?_
  obtain ⟨rfl, k, os, rfl⟩ := hh
  refine ⟨?_, Lib.below_grow _ _ (Nat.le_refl _) k os⟩
  have : Lib.itoa (n : Int) = udecS n := by
    rw [Lib.itoa, if_neg (by omega), Int.toNat_natCast, decDigits_udecS]
  rw [this]
  rfl
theorem powTab_of {l : List (String × DataW Unit)} {W : World} (hL : laidMetH P l W) (hf : l.filter (fun x => x.1 == "internal/strconv.uint64pow10") = [("internal/strconv.uint64pow10", Lib.tabData .u64 Lib.pow10Tab)]) : PowTab W := by
  have h1 := laidMetH.filter (fun x => x.1 == "internal/strconv.uint64pow10") hL
  rw [hf, MakeChecks.laidMetH_plain _ _ _ (by kernel_rfl)] at h1
  exact Lib.tabIs_of_head (g := 2) (t := 89) (e := 63) (n := 20) (by kernel_rfl) (by kernel_rfl) (by kernel_rfl) (by kernel_rfl) (by kernel_rfl) (by kernel_rfl) h1
theorem powTab_row : ∀ W, laidMetH P Go.Proofs.YtelflknhanpldaaDoor.Rows.replyFormatsRow.laid W → PowTab W := fun W hL => powTab_of hL (by kernel_rfl)
end Go.Abs.F
