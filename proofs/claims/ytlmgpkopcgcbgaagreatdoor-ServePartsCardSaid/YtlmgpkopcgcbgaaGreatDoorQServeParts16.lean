/- What the proof needs, part 16: A strings.Builder as an object: contracts of WriteString and String. -/
import Derived.Test.YtlmgpkopcgcbgaaGreatDoorQServeParts15
import Derived.Test.YtlmgpkopcgcbgaaGreatDoorQServeParts11
import Derived.Test.YtlmgpkopcgcbgaaGreatDoorQServeParts10
/- A strings.Builder as an object: contracts of WriteString and String. -/
set_option linter.unusedVariables false
set_option linter.unusedSimpArgs false
namespace Go.Abs.F
open Go Go.Abs Go.RowKit
set_option maxRecDepth 10000
variable {w0 : World}
/-- The object is a builder of these bytes. -/
def Bld (h : AH) (id : Nat) (l : List UInt8) : Prop :=
  id < h.n ∧ ((h.objs id = some (.bld 101 none 0 0) ∧ l = []) ∨ ∃ bid cap, id < bid ∧ bid < h.n ∧ h.objs id = some (.bld 101 (some bid) l.length cap) ∧ h.objs bid = some (.buf 5 l cap))
theorem Bld.ext {h h' : AH} {id : Nat} {l : List UInt8} (b : Bld h id l) (e : Ext h h') : Bld h' id l := by
  obtain ⟨h1, h2⟩ := b
  refine ⟨Nat.lt_of_lt_of_le h1 e.n, ?_⟩
  rcases h2 with ⟨h2, h3⟩ | ⟨bid, cap, h2, h3, h4, h5⟩
  · exact .inl ⟨(e.objs id h1).trans h2, h3⟩
  · exact .inr ⟨bid, cap, h2, Nat.lt_of_lt_of_le h3 e.n, (e.objs id h1).trans h4, (e.objs bid h3).trans h5⟩
/-- The bytes as cells. -/
def bcells (l : List UInt8) : List Value := l.map fun b => .int .u8 (b.toNat : Int)
theorem bcells_len (l : List UInt8) : (bcells l).length = l.length := by simp [bcells]
theorem bcells_one (l : List UInt8) : ∀ x ∈ bcells l, x.oneCell' = true := by
  intro x hx
  obtain ⟨b, _, rfl⟩ := List.mem_map.1 hx
  rfl
theorem bcells_get (l : List UInt8) (j : Nat) : (bcells l)[j]? = (l[j]?).map fun b => .int .u8 (b.toNat : Int) := by simp [bcells]
theorem bcells_first {P : Program} (w : World) (s : List UInt8) : (Builtin.firstCells 1 s.length (.string (bs s))).run P w = .ok (bcells s).toArray w := by
  simp only [Builtin.firstCells, Sem.run_pure]
  rw [bs_extract, List.take_length, List.drop_zero]
  simp [bs, bcells]
theorem putBlk_same {w : World} {b : Nat} {o : Obj} (hb : w.heap[b]? = some o) : putBlk w b o = w := by
  unfold putBlk
  obtain ⟨hlt, rfl⟩ := Array.getElem?_eq_some_iff.1 hb
  rw [Array.setIfInBounds_def, dif_pos hlt, Array.set_getElem_self]
theorem frozen_free {w : World} {b off : Nat} {vs : Array Value} {e : TypeId} {fr : Nat × Nat} (hb : w.heap[b]? = some (.cells vs e fr)) (hf : free fr off) : w.frozen? ⟨b, off, none⟩ = false := by
  obtain ⟨lo, hi⟩ := fr
  simp only [World.frozen?, hb]
  simpa [free] using hf
/-- copyCheck at a builder's block. -/
theorem cc_any {b : Nat} {p v : Value} {fr : Nat × Nat} {w : World} (hb : w.heap[b]? = some (.cells #[p, v] 101 fr)) (hf : free fr 0) (hp : p = .pointer none ∨ p = .pointer (some ⟨b, 0, none⟩)) :
    Calls P 85 #[.pointer (some ⟨b, 0, none⟩)] w fun e w' => e = .returned (.tuple #[]) ∧ w' = putBlk w b (.cells #[.pointer (some ⟨b, 0, none⟩), v] 101 fr) := by
  have hset : w.setCell ⟨b, 0, none⟩ (.pointer (some ⟨b, 0, none⟩)) = putBlk w b (.cells #[.pointer (some ⟨b, 0, none⟩), v] 101 fr) := by
    rw [setCell_putBlk hb]; rfl
  rcases hp with rfl | rfl
  · exact (Go.Proofs.YtlmgpkopcgcbgaaGreatDoorBld.cc_fresh b w (by simp [World.cell?, hb]) (by simp [World.shape?, hb]) (frozen_free hb hf)).mono fun e w' hh => ⟨hh.1, hh.2.trans hset⟩
  · exact (Go.Proofs.YtlmgpkopcgcbgaaGreatDoorBld.cc_used b w (by simp [World.cell?, hb])).mono fun e w' hh => ⟨hh.1, hh.2.trans (putBlk_same hb).symm⟩
theorem byte_info : ∃ i, P.info? 5 = some i ∧ i.size = 1 ∧ i.bytes = 1 ∧ i.zero = some (.int .u8 0) := by
  obtain ⟨i, hi, hj⟩ := Option.map_eq_some_iff.1 (show (P.info? 5).map (fun i => (i.size, i.bytes, i.zero)) = some (1, 1, some (.int .u8 0)) by kernel_rfl)
  simp only [Prod.mk.injEq] at hj
  exact ⟨i, hi, hj.1, hj.2.1, hj.2.2⟩
/-- The builder's own block is written last. -/
theorem bld_fin {Γ : Con} {h : AH} {w : World} (H : WR w0 Γ h w) {id b : Nat} {o o' : Option Nat} {n n' c c' : Nat} (ho : h.objs id = some (.bld 101 o n c)) (hr : Γ.rho id = some b) {v v' : Value} {fr : Nat × Nat}
    (hh : w.heap[b]? = some (.cells #[.pointer (some ⟨b, 0, none⟩), v] 101 fr)) (h0 : free fr 0) (h1 : free fr 1)
    (hv : (o' = none ∧ n' = 0 ∧ c' = 0 ∧ ∃ base, v' = .slice base 0 0) ∨ ∃ i g, o' = some i ∧ Γ.rho i = some g ∧ v' = .slice (some ⟨g, 0, none⟩) n' c') :
    WR w0 Γ (h.set id (.bld 101 o' n' c')) (w.setCell ⟨b, 1, none⟩ v') := by
  rw [setCell_putBlk hh]
  exact H.turn ho hr (putBlk_chg w b _) ⟨_, _, _, putBlk_at hh _, h0, h1, .inr rfl, hv⟩ (fun vs' t' fr' h' => by
    rw [hh] at h'
    cases h'
    exact ⟨_, _, putBlk_at hh _, by simp⟩)
theorem ws_call (id : Nat) (l s : List UInt8) (h : AH) (hb : Bld h id l) (hl : l.length + s.length ≤ 140737488355328) : Call P w0 strings_Builder_WriteString [.ptr id 0, .v (.string (bs s))] h
    (fun v h' => v = .tup [.v (.int .i64 ((s.length : Nat) : Int)), .v .nilIface] ∧ Bld h' id (l ++ s) ∧ ExtX (fun i => id ≤ i) (fun _ => False) h h') := by
  obtain ⟨inf, hi, hsz, hby, hz⟩ := byte_info
  have hte : P.underlying 22 = some (.slice 5) := Go.Proofs.Tryz.underlying22
  have hst : slOrStr P 9 := .inr Go.Proofs.Tryz.underlying9
  have hly : ∀ W, (Builtin.lenOf (.string (bs s))).run P W = .ok s.length W := fun W => by simp [Builtin.lenOf, bs_size]
  have hnw : ∀ W, (Builtin.firstCells inf.size s.length (.string (bs s))).run P W = .ok (bcells s).toArray W := fun W => by rw [hsz]; exact bcells_first W s
  refine ⟨⟨_, Go.Proofs.Tryz.func72, by kernel_rfl, by kernel_rfl⟩, fun Γ w vs H hv => ?_⟩
  have hlen := hv.len
  obtain ⟨x0, x1, rfl⟩ : ∃ x0 x1, vs = [x0, x1] := by
    match vs, hlen with
    | [x0, x1], _ => exact ⟨x0, x1, rfl⟩
  have hx0 : RV Γ (.ptr id 0) x0 := hv.at_ 0 (by simp) (by simp)
  have hx1 : RV Γ (.v (.string (bs s))) x1 := hv.at_ 1 (by simp) (by simp)
  obtain ⟨b, hrho, rfl⟩ := hx0.inv_ptr
  obtain rfl := hx1.inv_v
  obtain ⟨hid, hcase⟩ := hb
  have hret : ∀ Γ' : Con, RV Γ' (.tup [.v (.int .i64 ((s.length : Nat) : Int)), .v .nilIface]) (.tuple #[.int .i64 (bs s).size, .nilIface]) := fun Γ' => by
    refine .tup rfl fun k hk hk' => ?_
    match k, hk with
    | 0, _ => exact .v _
    | 1, _ => exact .v _
  rcases hcase with ⟨ho, rfl⟩ | ⟨bid, cap, hlt, hbn, ho, hbuf⟩
  · obtain ⟨b', hb', hge, ⟨p, v, fr, hh, hf0, hf1, hp, hv5⟩, hF⟩ := H.obj ho
    obtain rfl : b = b' := by rw [hrho] at hb'; injection hb'
    obtain ⟨base, rfl⟩ : ∃ base, v = .slice base 0 0 := by
      rcases hv5 with ⟨_, _, _, base, hbase⟩ | ⟨i, g, hi, _⟩
      · exact ⟨base, hbase⟩
      · cases hi
    have hcc := cc_any hh hf0 hp
    have hW := putBlk_at hh (.cells #[.pointer (some ⟨b, 0, none⟩), .slice base 0 0] 101 fr)
    have HW : WR w0 Γ (h.set id (.bld 101 none 0 0)) (putBlk w b (.cells #[.pointer (some ⟨b, 0, none⟩), .slice base 0 0] 101 fr)) :=
      H.turn ho hrho (putBlk_chg w b _) ⟨_, _, _, hW, hf0, hf1, .inr rfl, .inl ⟨rfl, rfl, rfl, base, rfl⟩⟩ (fun vs' t' fr' h' => by
        rw [hh] at h'
        cases h'
        exact ⟨_, _, hW, by simp⟩)
    generalize putBlk w b (.cells #[.pointer (some ⟨b, 0, none⟩), .slice base 0 0] 101 fr) = W at hcc hW HW
    have ho1 : (h.set id (.bld 101 none 0 0)).objs id = some (.bld 101 none 0 0) := by simp [set_at]
    by_cases hs : s = []
    · subst hs
      have hrun := append_none (ty := 22) (w := W) hte hi hst (base := base) (n := 0) (c := 0) (hly W) (by simpa [bcells] using hnw W) (Nat.le_refl _)
      refine (Go.Proofs.YtlmgpkopcgcbgaaGreatDoorBld.ws_any b (bs []) base base 0 0 0 0 w W W hcc (by simp [World.cell?, hW]) hrun (by simp [World.cell?, hW]) (frozen_free hW hf1)).mono fun e w' hh' => ?_
      obtain ⟨rfl, rfl⟩ := hh'
      refine ⟨_, Γ, _, _, rfl, .refl Γ, hret Γ, bld_fin HW ho1 hrho hW hf0 hf1 (o' := none) (n' := 0) (c' := 0) (.inl ⟨rfl, rfl, rfl, base, rfl⟩), rfl, ⟨by simpa [set_n] using hid, .inl ⟨by simp [set_at], rfl⟩⟩, ?_⟩
      exact ((ExtX.of (Ext.refl h)).set (.inl (Nat.le_refl _)) _).set (.inl (Nat.le_refl _)) _
    · have hpos : 0 < s.length := List.length_pos_iff.2 hs
      have hrun := append_grow (ty := 22) (w := W) (us := []) (new := bcells s) hte hi hz hst (base := base) (n := 0) (c := 0) (hly W) (run_firstCells_zero _ _ _ _ _) (hnw _) (by omega) (by rw [hby]; omega) (by omega)
      have hcap := grownCap_ge W (0 + s.length) 0 5
      generalize grownCap W (0 + s.length) 0 5 = cap at hrun hcap
      rw [Nat.zero_add] at hrun hcap
      generalize harr : ((([] : List Value) ++ bcells s).toArray ++ Builtin.zeroCells (Value.int IntKind.u8 0).cells (cap - s.length)) = arr at hrun
      have hasz : arr.size = cap := by
        rw [← harr]
        simp only [Array.size_append, List.size_toArray, List.nil_append, bcells_len, size_zeroCells]
        first | omega | (simp [Value.cells]; omega) | (show s.length + (cap - s.length) * 1 = cap; omega)
      have HW2 := HW.drew.new (.cells arr 5) (.buf 5 s cap) (fun w' hw' => ⟨arr, (0, 0), hw', hasz, hcap, fun j x hx => by
        rw [← harr, Array.getElem?_append_left (by simp [bcells_len]; exact (List.getElem?_eq_some_iff.1 hx).1)]
        simp [bcells_get, hx], Nat.zero_le _⟩)
      have hbl : b < W.heap.size := size_pos_of hW
      have hne : id ≠ h.n := by omega
      have hW2 : (W.drew.alloc (.cells arr 5)).heap[b]? = some (.cells #[.pointer (some ⟨b, 0, none⟩), .slice base 0 0] 101 fr) := (heap_alloc_old W.drew _ b hbl).trans hW
      refine (Go.Proofs.YtlmgpkopcgcbgaaGreatDoorBld.ws_any b (bs s) base _ 0 0 _ _ w W _ hcc (by simp [World.cell?, hW]) hrun (by simp [World.cell?, hW2]) (frozen_free hW2 hf1)).mono fun e w' hh' => ?_
      obtain ⟨rfl, rfl⟩ := hh'
      have hle := HW.drew.le_obj W.drew.heap.size
      refine ⟨_, _, _, _, rfl, hle, hret _, bld_fin HW2 (o := none) (n := 0) (c := 0) (by simp [alloc_at, set_n, set_at, hne]) (hle.rho hrho) hW2 hf0 hf1 (o' := some h.n) (n' := s.length) (c' := cap) (.inr ⟨h.n, W.drew.heap.size, rfl, by simp [Con.withObj, set_n], rfl⟩), rfl, ⟨by simp [set_n, alloc_n]; omega, .inr ⟨h.n, cap, hid, by simp [set_n, alloc_n], by simp [set_at], ?_⟩⟩, ?_⟩
      · have : h.n ≠ id := fun e => hne e.symm
        simp [set_at, alloc_at, set_n, this]
      · exact (((ExtX.of (Ext.refl h)).set (.inl (Nat.le_refl _)) _).alloc _).set (.inl (Nat.le_refl _)) _
  · obtain ⟨b', hb', hge, ⟨p, v, fr, hh, hf0, hf1, hp, hv5⟩, hF⟩ := H.obj ho
    obtain rfl : b = b' := by rw [hrho] at hb'; injection hb'
    obtain ⟨g, hgr, rfl⟩ : ∃ g, Γ.rho bid = some g ∧ v = .slice (some ⟨g, 0, none⟩) l.length cap := by
      rcases hv5 with ⟨h5, _⟩ | ⟨i, g, h5, h6, h7⟩
      · cases h5
      · injection h5 with h5
        subst h5
        exact ⟨g, h6, h7⟩
    obtain ⟨g', hg', hgge, ⟨cur, frb, hgh, hcs, hlc, hcell, hfrb⟩, hgF⟩ := H.obj hbuf
    obtain rfl : g = g' := by rw [hgr] at hg'; injection hg'
    have hbg : g ≠ b := by
      rintro rfl
      have := H.inj (by rw [hbuf]; rfl) (by rw [ho]; rfl) hgr hrho
      omega
    have hcc := cc_any hh hf0 hp
    have hchg := putBlk_chg w b (.cells #[.pointer (some ⟨b, 0, none⟩), .slice (some ⟨g, 0, none⟩) l.length cap] 101 fr)
    have hW := putBlk_at hh (.cells #[.pointer (some ⟨b, 0, none⟩), .slice (some ⟨g, 0, none⟩) l.length cap] 101 fr)
    have HW : WR w0 Γ (h.set id (.bld 101 (some bid) l.length cap)) (putBlk w b (.cells #[.pointer (some ⟨b, 0, none⟩), .slice (some ⟨g, 0, none⟩) l.length cap] 101 fr)) :=
      H.turn ho hrho hchg ⟨_, _, _, hW, hf0, hf1, .inr rfl, .inr ⟨bid, g, rfl, hgr, rfl⟩⟩ (fun vs' t' fr' h' => by
        rw [hh] at h'
        cases h'
        exact ⟨_, _, hW, by simp⟩)
    have hgW := (hchg.other g hbg).trans hgh
    generalize putBlk w b (.cells #[.pointer (some ⟨b, 0, none⟩), .slice (some ⟨g, 0, none⟩) l.length cap] 101 fr) = W at hcc hW HW hgW
    have hidb : bid ≠ id := by omega
    have ho1 : (h.set id (.bld 101 (some bid) l.length cap)).objs id = some (.bld 101 (some bid) l.length cap) := by simp [set_at]
    have hbuf1 : (h.set id (.bld 101 (some bid) l.length cap)).objs bid = some (.buf 5 l cap) := by simp [set_at, hidb, hbuf]
    by_cases hroom : l.length + s.length ≤ cap
    · have hstc := run_storeCells P (off := l.length) (bcells s) 0 cur W hgW (bcells_one s) (by rw [bcells_len, hcs]; omega) (fun k a c => by
        simp only [free]
        omega)
      simp only [Nat.add_zero] at hstc
      have hrun := append_room (ty := 22) hte hi hst (b := g) (o := 0) (n := l.length) (c := cap) (hly W) (hnw W) hroom (by rw [hsz, Nat.mul_one, Nat.zero_add]; exact hstc)
      have HW2 := HW.turn hbuf1 hgr (putBlk_chg W g (.cells (wrA cur l.length (bcells s)) 5 frb)) (o' := .buf 5 (l ++ s) cap)
        ⟨_, _, putBlk_at hgW _, by rw [wrA_size]; exact hcs, by simp; exact hroom, fun j x hx => by
          rw [wrA_at]
          have hj := (List.getElem?_eq_some_iff.1 hx).1
          simp only [List.length_append] at hj
          by_cases hjl : j < l.length
          · rw [if_neg (by omega)]
            rw [List.getElem?_append_left hjl] at hx
            exact hcell j x hx
          · rw [if_pos ⟨by omega, by rw [bcells_len]; omega, by rw [hcs]; omega⟩]
            rw [List.getElem?_append_right (by omega)] at hx
            rw [bcells_get, hx]
            rfl, by simp; omega⟩ (fun vs' t' fr' h' => by
          rw [hgW] at h'
          cases h'
          exact ⟨_, _, putBlk_at hgW _, wrA_size _ _ _⟩)
      have hW2 := ((putBlk_chg W g (.cells (wrA cur l.length (bcells s)) 5 frb)).other b hbg.symm).trans hW
      refine (Go.Proofs.YtlmgpkopcgcbgaaGreatDoorBld.ws_any b (bs s) _ _ _ _ _ _ w W _ hcc (by simp [World.cell?, hW]) hrun (by simp [World.cell?, hW2]) (frozen_free hW2 hf1)).mono fun e w' hh' => ?_
      obtain ⟨rfl, rfl⟩ := hh'
      refine ⟨_, Γ, _, _, rfl, .refl Γ, hret _, bld_fin HW2 (o := some bid) (n := l.length) (c := cap) (by simp [set_at, hidb.symm]) hrho hW2 hf0 hf1 (o' := some bid) (n' := l.length + s.length) (c' := cap) (.inr ⟨bid, g, rfl, hgr, rfl⟩), rfl, ⟨by simpa [set_n] using hid, .inr ⟨bid, cap, hlt, by simpa [set_n] using hbn, by simp [set_at], by simp [set_at, hidb]⟩⟩, ?_⟩
      exact (((ExtX.of (Ext.refl h)).set (.inl (Nat.le_refl _)) _).set (.inl (Nat.le_of_lt hlt)) _).set (.inl (Nat.le_refl _)) _
    · have hpos : 0 < s.length := by omega
      have hold : (Builtin.firstCells inf.size l.length (.slice (some ⟨g, 0, none⟩) l.length cap)).run P W.drew = .ok (bcells l).toArray W.drew := by
        refine run_firstCells_some (P := P) W.drew _ _ ⟨g, 0, none⟩ _ cap (bcells l) (by rw [bcells_len, hsz, Nat.mul_one]) (fun j v hv => ?_)
        rw [bcells_get, Option.map_eq_some_iff] at hv
        obtain ⟨x, hx, rfl⟩ := hv
        have hc1 := hcell j x hx
        have : W.drew.heap[g]? = some (.cells cur 5 frb) := hgW
        rw [addr_add, Nat.zero_add]
        simp [World.cell?, this, hc1]
      have hrun := append_grow (ty := 22) (w := W) (us := bcells l) (new := bcells s) hte hi hz hst (n := l.length) (c := cap) (hly W) hold (hnw _) (by omega) (by rw [hby]; omega) (by omega)
      have hcap := grownCap_ge W (l.length + s.length) cap 5
      generalize grownCap W (l.length + s.length) cap 5 = cap2 at hrun hcap
      generalize harr : ((bcells l ++ bcells s).toArray ++ Builtin.zeroCells (Value.int IntKind.u8 0).cells (cap2 - (l.length + s.length))) = arr at hrun
      have hasz : arr.size = cap2 := by
        rw [← harr]
        simp only [Array.size_append, List.size_toArray, List.length_append, bcells_len, size_zeroCells]
        first | omega | (simp [Value.cells]; omega) | (show l.length + s.length + (cap2 - (l.length + s.length)) * 1 = cap2; omega)
      have HW2 := HW.drew.new (.cells arr 5) (.buf 5 (l ++ s) cap2) (fun w' hw' => ⟨arr, (0, 0), hw', hasz, by simpa using hcap, fun j x hx => by
        have hj := (List.getElem?_eq_some_iff.1 hx).1
        simp only [List.length_append] at hj
        rw [← harr, Array.getElem?_append_left (by simp [bcells_len]; exact hj)]
        have : (bcells l ++ bcells s) = bcells (l ++ s) := by simp [bcells]
        rw [this]
        simp [bcells_get, hx], Nat.zero_le _⟩)
      have hbl : b < W.heap.size := size_pos_of hW
      have hne : id ≠ h.n := by omega
      have hW2 : (W.drew.alloc (.cells arr 5)).heap[b]? = some (.cells #[.pointer (some ⟨b, 0, none⟩), .slice (some ⟨g, 0, none⟩) l.length cap] 101 fr) := (heap_alloc_old W.drew _ b hbl).trans hW
      refine (Go.Proofs.YtlmgpkopcgcbgaaGreatDoorBld.ws_any b (bs s) _ _ _ _ _ _ w W _ hcc (by simp [World.cell?, hW]) hrun (by simp [World.cell?, hW2]) (frozen_free hW2 hf1)).mono fun e w' hh' => ?_
      obtain ⟨rfl, rfl⟩ := hh'
      have hle := HW.drew.le_obj W.drew.heap.size
      refine ⟨_, _, _, _, rfl, hle, hret _, bld_fin HW2 (o := some bid) (n := l.length) (c := cap) (by simp [alloc_at, set_n, set_at, hne]) (hle.rho hrho) hW2 hf0 hf1 (o' := some h.n) (n' := l.length + s.length) (c' := cap2) (.inr ⟨h.n, W.drew.heap.size, rfl, by simp [Con.withObj, set_n], rfl⟩), rfl, ⟨by simp [set_n, alloc_n]; omega, .inr ⟨h.n, cap2, hid, by simp [set_n, alloc_n], by simp [set_at], ?_⟩⟩, ?_⟩
      · have : h.n ≠ id := fun e => hne e.symm
        simp [set_at, alloc_at, set_n, this]
      · exact (((ExtX.of (Ext.refl h)).set (.inl (Nat.le_refl _)) _).alloc _).set (.inl (Nat.le_refl _)) _
theorem set_same {h : AH} {i : Nat} {o : AObj} (ho : h.objs i = some o) : h.set i o = h := by
  have : (fun j => if j = i then some o else h.objs j) = h.objs := by
    funext j
    by_cases hj : j = i
    · rw [if_pos hj, hj, ho]
    · rw [if_neg hj]
  simp only [AH.set, this]
theorem str_call (id : Nat) (l : List UInt8) (h : AH) (hb : Bld h id l) (hne : l ≠ []) (hl : l.length ≤ 9223372036854775807) : Call P w0 strings_Builder_String [.ptr id 0] h (fun v h' => v = .v (.string (bs l)) ∧ h' = h) := by
  refine ⟨⟨_, Go.Proofs.Tryz.func74, by kernel_rfl, by kernel_rfl⟩, fun Γ w vs H hv => ?_⟩
  have hlen := hv.len
  obtain ⟨x0, rfl⟩ : ∃ x0, vs = [x0] := by
    match vs, hlen with
    | [x0], _ => exact ⟨x0, rfl⟩
  have hx0 : RV Γ (.ptr id 0) x0 := hv.at_ 0 (by simp) (by simp)
  obtain ⟨b, hrho, rfl⟩ := hx0.inv_ptr
  obtain ⟨hid, hcase⟩ := hb
  rcases hcase with ⟨ho, rfl⟩ | ⟨bid, cap, hlt, hbn, ho, hbuf⟩
  · exact absurd rfl hne
  · obtain ⟨b', hb', hge, ⟨p, v, fr, hh, hf0, hf1, hp, hv5⟩, hF⟩ := H.obj ho
    obtain rfl : b = b' := by rw [hrho] at hb'; injection hb'
    obtain ⟨g, hgr, rfl⟩ : ∃ g, Γ.rho bid = some g ∧ v = .slice (some ⟨g, 0, none⟩) l.length cap := by
      rcases hv5 with ⟨h5, _⟩ | ⟨i, g, h5, h6, h7⟩
      · cases h5
      · injection h5 with h5
        subst h5
        exact ⟨g, h6, h7⟩
    obtain ⟨g', hg', hgge, ⟨cur, frb, hgh, hcs, hlc, hcell, hfrb⟩, hgF⟩ := H.obj hbuf
    obtain rfl : g = g' := by rw [hgr] at hg'; injection hg'
    refine (Go.Proofs.YtlmgpkopcgcbgaaGreatDoorBld.str_some b g cap cap l w (by simp [World.cell?, hh]) hne hlc hl (by simp [World.shape?, hgh, hcs]) hlc (fun j x hx => ?_)).mono fun e w' hh' => ?_
    · rw [addr_add, Nat.zero_add]
      simp [World.cell?, hgh, hcell j x hx]
    · obtain ⟨rfl, rfl⟩ := hh'
      have hpos : l.length ≠ 0 := by simpa using hne
      have hgd : w.drew.heap[g]? = some (.cells cur 5 frb) := hgh
      have hfz : w.drew.freeze ⟨g, 0, none⟩ l.length = putBlk w.drew g (.cells cur 5 (if frb.1 == frb.2 then (0, 0 + l.length) else (min frb.1 0, max frb.2 (0 + l.length)))) := by
        unfold World.freeze putBlk
        rw [if_neg hpos]
        obtain ⟨hlt', hge'⟩ := Array.getElem?_eq_some_iff.1 hgd
        congr 1
        apply Array.ext_getElem?
        intro k
        rw [Array.getElem?_modify, Array.getElem?_setIfInBounds]
        by_cases hk : g = k
        · subst hk
          simp only [if_true, hgd, Option.map_some]
          rw [if_pos hlt']
        · rw [if_neg hk, if_neg hk]
      have hfb : (if frb.1 == frb.2 then (0, 0 + l.length) else (min frb.1 0, max frb.2 (0 + l.length))).2 ≤ l.length := by
        split
        · simp
        · simp only; omega
      rw [hfz]
      have HW := H.drew.turn hbuf hgr (putBlk_chg w.drew g (.cells cur 5 (if frb.1 == frb.2 then (0, 0 + l.length) else (min frb.1 0, max frb.2 (0 + l.length))))) (o' := .buf 5 l cap)
        ⟨cur, _, putBlk_at hgd _, hcs, hlc, hcell, hfb⟩ (fun vs' t' fr' h' => by
          rw [hgd] at h'
          cases h'
          exact ⟨_, _, putBlk_at hgd _, rfl⟩)
      rw [set_same hbuf] at HW
      exact ⟨_, Γ, _, h, rfl, .refl Γ, .v _, HW, rfl, rfl⟩
end Go.Abs.F
