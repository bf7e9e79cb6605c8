/- A strings.Builder as an object: WriteByte. -/
import Derived.Test.YthmfeheegoalfaaDoorAbsBle
set_option linter.unusedVariables false
set_option linter.unusedSimpArgs false
namespace Go.Proofs.YthmfeheegoalfaaDoorBld
open Go.Shelf Go.RowKit
set_option maxHeartbeats 1000000
set_option maxRecDepth 100000
theorem wb_any (b : Nat) (c0 : UInt8) (base base' : Option Addr) (n c n' c' : Nat) (w W V w2 : World) (hV : V = W.alloc (.cells #[.int .u8 (c0.toNat : Int)] 5))
    (hcc : Calls Tryd.prog 25 #[.pointer (some ⟨b, 0, none⟩)] w fun e w' => e = .returned (.tuple #[]) ∧ w' = W) (h1 : W.cell? ⟨b, 1, none⟩ = some (.slice base n c))
    (hrun : (Builtin.append_ #[37, 37] 37 #[.slice base n c, .slice (some ⟨W.heap.size, 0, none⟩) 1 1]).run Tryd.prog V = .ok (.slice base' n' c') w2) (h2 : w2.cell? ⟨b, 1, none⟩ = some (.slice base n c)) (hf2 : w2.frozen? ⟨b, 1, none⟩ = false) :
    Calls Tryd.prog 27 #[.pointer (some ⟨b, 0, none⟩), .int .u8 (c0.toNat : Int)] w fun e w' => e = .returned .nilIface ∧ w' = w2.setCell ⟨b, 1, none⟩ (.slice base' n' c') := by
  subst hV
  have u1 := run_underlying Tryd.underlying41
  have u2 := run_underlying Tryd.underlying39
  have u3 := run_underlying Tryd.underlying37
  have u5 := run_underlying Tryd.underlying5
  go_enter Tryd.func27, Tryd.ntmps27
  go_wp2_with (go_at_call 25; refine hcc.mono ?_)
  rintro e w1 ⟨rfl, rfl⟩
  go_wp2_with (at_builtin; refine wpList_append_run rfl _ _ 37 37 rfl rfl rfl hrun ?_)
  go_wp2
  go_ret
  exact ⟨rfl, rfl⟩
end Go.Proofs.YthmfeheegoalfaaDoorBld
namespace Go.Abs.F
open Go Go.Abs Go.RowKit
set_option maxRecDepth 10000
variable {w0 : World}
theorem wb_core (id : Nat) (l s : List UInt8) (c0 : UInt8) (hs1 : s = [c0]) (h : AH) (hb : Bld h id l) (hl : l.length + s.length ≤ 140737488355328) : Call P w0 strings_Builder_WriteByte [.ptr id 0, .v (.int .u8 (c0.toNat : Int))] h
    (fun v h' => v = .v .nilIface ∧ Bld h' id (l ++ s) ∧ ExtX (fun i => id ≤ i) (fun _ => False) h h') := by
  have hsl : s.length = 1 := by rw [hs1]; rfl
  have hs : s ≠ [] := by rw [hs1]; simp
  obtain ⟨inf, hi, hsz, hby, hz⟩ := byte_info
  have hte : P.underlying 37 = some (.slice 5) := Go.Proofs.Tryd.underlying37
  have hst : slOrStr P 37 := .inl ⟨_, Go.Proofs.Tryd.underlying37⟩
  have hly : ∀ (W : World) (a : Nat), (Builtin.lenOf (.slice (some ⟨a, 0, none⟩) 1 1)).run P W = .ok s.length W := fun W a => by simp [Builtin.lenOf, hsl]
  have hnw0 : ∀ (W V : World), V.heap[W.heap.size]? = some (.cells #[.int .u8 (c0.toNat : Int)] 5) → (Builtin.firstCells inf.size s.length (.slice (some ⟨W.heap.size, 0, none⟩) 1 1)).run P V = .ok (bcells s).toArray V := fun W V hV => by
    refine run_firstCells_some (P := P) V _ _ ⟨W.heap.size, 0, none⟩ _ 1 (bcells s) (by rw [bcells_len, hsz, Nat.mul_one]) (fun j v hv => ?_)
    rw [hs1] at hv
    match j, hv with
    | 0, hv =>
      simp only [bcells, List.map_cons, List.map_nil, List.getElem?_cons_zero, Option.some.injEq] at hv
      subst hv
      rw [addr_add]
      simp [World.cell?, hV]
  refine ⟨⟨_, Go.Proofs.Tryd.func27, by kernel_rfl, by kernel_rfl⟩, fun Γ w vs H hv => ?_⟩
  have hlen := hv.len
  obtain ⟨x0, x1, rfl⟩ : ∃ x0 x1, vs = [x0, x1] := by
    match vs, hlen with
    | [x0, x1], _ => exact ⟨x0, x1, rfl⟩
  have hx0 : RV Γ (.ptr id 0) x0 := hv.at_ 0 (by simp) (by simp)
  have hx1 : RV Γ (.v (.int .u8 (c0.toNat : Int))) x1 := hv.at_ 1 (by simp) (by simp)
  obtain ⟨b, hrho, rfl⟩ := hx0.inv_ptr
  obtain rfl := hx1.inv_v
  obtain ⟨hid, hcase⟩ := hb
  have hret : ∀ Γ' : Con, RV Γ' (.v .nilIface) .nilIface := fun Γ' => .v _
  rcases hcase with ⟨ho, rfl⟩ | ⟨bid, cap, hlt, hbn, ho, hbuf⟩
  · obtain ⟨b', hb', hge, ⟨p, v, fr, hh, hf0, hf1, hp, hv5⟩, hF⟩ := H.obj ho
    obtain rfl : b = b' := by rw [hrho] at hb'; injection hb'
    obtain ⟨base, rfl⟩ : ∃ base, v = .slice base 0 0 := by
      rcases hv5 with ⟨_, _, _, base, hbase⟩ | ⟨i, g, hi, _⟩
      · exact ⟨base, hbase⟩
      · cases hi
    have hcc := cc_any hh hf0 hp
    have hW := putBlk_at hh (.cells #[.pointer (some ⟨b, 0, none⟩), .slice base 0 0] 41 fr)
    have HW : WR w0 Γ (h.set id (.bld 41 none 0 0)) (putBlk w b (.cells #[.pointer (some ⟨b, 0, none⟩), .slice base 0 0] 41 fr)) :=
      H.turn ho hrho (putBlk_chg w b _) ⟨_, _, _, hW, hf0, hf1, .inr rfl, .inl ⟨rfl, rfl, rfl, base, rfl⟩⟩ (fun vs' t' fr' h' => by
        rw [hh] at h'
        cases h'
        exact ⟨_, _, hW, by simp⟩)
    generalize putBlk w b (.cells #[.pointer (some ⟨b, 0, none⟩), .slice base 0 0] 41 fr) = W1 at hcc hW HW
    have hW1 := hW
    obtain ⟨W, hV⟩ : ∃ W, W = W1.alloc (.cells #[.int .u8 (c0.toNat : Int)] 5) := ⟨_, rfl⟩
    have HW := HW.alloc (.cells #[.int .u8 (c0.toNat : Int)] 5)
    have hW := (heap_alloc_old W1 (.cells #[.int .u8 (c0.toNat : Int)] 5) b (size_pos_of hW1)).trans hW1
    have hnw1 : W.heap[W1.heap.size]? = some (.cells #[.int .u8 (c0.toNat : Int)] 5) := by rw [hV]; exact heap_alloc_new _ _
    rw [← hV] at HW hW
    have hnw := hnw0 W1 W hnw1
    have hnwd := hnw0 W1 W.drew hnw1
    have ho1 : (h.set id (.bld 41 none 0 0)).objs id = some (.bld 41 none 0 0) := by simp [set_at]
    · have hpos : 0 < s.length := List.length_pos_iff.2 hs
      have hrun := append_grow (ty := 37) (w := W) (us := []) (new := bcells s) hte hi hz hst (base := base) (n := 0) (c := 0) (hly W _) (run_firstCells_zero _ _ _ _ _) hnwd (by omega) (by rw [hby]; omega) (by omega)
      have hcap := grownCap_ge W (0 + s.length) 0 5
      generalize grownCap W (0 + s.length) 0 5 = cap at hrun hcap
      rw [Nat.zero_add] at hrun hcap
      generalize harr : ((([] : List Value) ++ bcells s).toArray ++ Builtin.zeroCells (Value.int IntKind.u8 0).cells (cap - s.length)) = arr at hrun
      have hasz : arr.size = cap := by
        rw [← harr]
        simp only [Array.size_append, List.size_toArray, List.nil_append, bcells_len, size_zeroCells]
        first | omega | (simp [Value.cells]; omega) | (show s.length + (cap - s.length) * 1 = cap; omega)
      have HW2 := HW.drew.new (.cells arr 5) (.buf 5 s cap) (fun w' hw' => ⟨arr, (0, 0), hw', hasz, hcap, fun j x hx => by
        rw [← harr, Array.getElem?_append_left (by simp [bcells_len]; exact (List.getElem?_eq_some_iff.1 hx).1)]
        simp [bcells_get, hx], Nat.zero_le _⟩)
      have hbl : b < W.heap.size := size_pos_of hW
      have hne : id ≠ h.n := by omega
      have hW2 : (W.drew.alloc (.cells arr 5)).heap[b]? = some (.cells #[.pointer (some ⟨b, 0, none⟩), .slice base 0 0] 41 fr) := (heap_alloc_old W.drew _ b hbl).trans hW
      refine (Go.Proofs.YthmfeheegoalfaaDoorBld.wb_any b c0 base _ 0 0 _ _ w W1 W _ hV hcc (by simp [World.cell?, hW1]) hrun (by simp [World.cell?, hW2]) (frozen_free hW2 hf1)).mono fun e w' hh' => ?_
      obtain ⟨rfl, rfl⟩ := hh'
      have hle := HW.drew.le_obj W.drew.heap.size
      refine ⟨_, _, _, _, rfl, hle, hret _, bld_fin HW2 (o := none) (n := 0) (c := 0) (by simp [alloc_at, set_n, set_at, hne]) (hle.rho hrho) hW2 hf0 hf1 (o' := some h.n) (n' := s.length) (c' := cap) (.inr ⟨h.n, W.drew.heap.size, rfl, by simp [Con.withObj, set_n], rfl⟩), rfl, ⟨by simp [set_n, alloc_n]; omega, .inr ⟨h.n, cap, hid, by simp [set_n, alloc_n], by simp [set_at], ?_⟩⟩, ?_⟩
      · have : h.n ≠ id := fun e => hne e.symm
        simp [set_at, alloc_at, set_n, this]
      · exact (((ExtX.of (Ext.refl h)).set (.inl (Nat.le_refl _)) _).alloc _).set (.inl (Nat.le_refl _)) _
  · obtain ⟨b', hb', hge, ⟨p, v, fr, hh, hf0, hf1, hp, hv5⟩, hF⟩ := H.obj ho
    obtain rfl : b = b' := by rw [hrho] at hb'; injection hb'
    obtain ⟨g, hgr, rfl⟩ : ∃ g, Γ.rho bid = some g ∧ v = .slice (some ⟨g, 0, none⟩) l.length cap := by
      rcases hv5 with ⟨h5, _⟩ | ⟨i, g, h5, h6, h7⟩
      · cases h5
      · injection h5 with h5
        subst h5
        exact ⟨g, h6, h7⟩
    obtain ⟨g', hg', hgge, ⟨cur, frb, hgh, hcs, hlc, hcell, hfrb⟩, hgF⟩ := H.obj hbuf
    obtain rfl : g = g' := by rw [hgr] at hg'; injection hg'
    have hbg : g ≠ b := by
      rintro rfl
      have := H.inj (by rw [hbuf]; rfl) (by rw [ho]; rfl) hgr hrho
      omega
    have hcc := cc_any hh hf0 hp
    have hchg := putBlk_chg w b (.cells #[.pointer (some ⟨b, 0, none⟩), .slice (some ⟨g, 0, none⟩) l.length cap] 41 fr)
    have hW := putBlk_at hh (.cells #[.pointer (some ⟨b, 0, none⟩), .slice (some ⟨g, 0, none⟩) l.length cap] 41 fr)
    have HW : WR w0 Γ (h.set id (.bld 41 (some bid) l.length cap)) (putBlk w b (.cells #[.pointer (some ⟨b, 0, none⟩), .slice (some ⟨g, 0, none⟩) l.length cap] 41 fr)) :=
      H.turn ho hrho hchg ⟨_, _, _, hW, hf0, hf1, .inr rfl, .inr ⟨bid, g, rfl, hgr, rfl⟩⟩ (fun vs' t' fr' h' => by
        rw [hh] at h'
        cases h'
        exact ⟨_, _, hW, by simp⟩)
    have hgW := (hchg.other g hbg).trans hgh
    generalize putBlk w b (.cells #[.pointer (some ⟨b, 0, none⟩), .slice (some ⟨g, 0, none⟩) l.length cap] 41 fr) = W1 at hcc hW HW hgW
    have hW1 := hW
    obtain ⟨W, hV⟩ : ∃ W, W = W1.alloc (.cells #[.int .u8 (c0.toNat : Int)] 5) := ⟨_, rfl⟩
    have HW := HW.alloc (.cells #[.int .u8 (c0.toNat : Int)] 5)
    have hW := (heap_alloc_old W1 (.cells #[.int .u8 (c0.toNat : Int)] 5) b (size_pos_of hW1)).trans hW1
    have hnw1 : W.heap[W1.heap.size]? = some (.cells #[.int .u8 (c0.toNat : Int)] 5) := by rw [hV]; exact heap_alloc_new _ _
    have hgW := (heap_alloc_old W1 (.cells #[.int .u8 (c0.toNat : Int)] 5) g (size_pos_of hgW)).trans hgW
    rw [← hV] at HW hW hgW
    have hnw := hnw0 W1 W hnw1
    have hnwd := hnw0 W1 W.drew hnw1
    have hidb : bid ≠ id := by omega
    have ho1 : (h.set id (.bld 41 (some bid) l.length cap)).objs id = some (.bld 41 (some bid) l.length cap) := by simp [set_at]
    have hbuf1 : (h.set id (.bld 41 (some bid) l.length cap)).objs bid = some (.buf 5 l cap) := by simp [set_at, hidb, hbuf]
    by_cases hroom : l.length + s.length ≤ cap
    · have hstc := run_storeCells P (off := l.length) (bcells s) 0 cur W hgW (bcells_one s) (by rw [bcells_len, hcs]; omega) (fun k a c => by
        simp only [free]
        omega)
      simp only [Nat.add_zero] at hstc
      have hrun := append_room (ty := 37) hte hi hst (b := g) (o := 0) (n := l.length) (c := cap) (hly W _) hnw hroom (by rw [hsz, Nat.mul_one, Nat.zero_add]; exact hstc)
      have HW2 := HW.turn hbuf1 hgr (putBlk_chg W g (.cells (wrA cur l.length (bcells s)) 5 frb)) (o' := .buf 5 (l ++ s) cap)
        ⟨_, _, putBlk_at hgW _, by rw [wrA_size]; exact hcs, by simp; exact hroom, fun j x hx => by
          rw [wrA_at]
          have hj := (List.getElem?_eq_some_iff.1 hx).1
          simp only [List.length_append] at hj
          by_cases hjl : j < l.length
          · rw [if_neg (by omega)]
            rw [List.getElem?_append_left hjl] at hx
            exact hcell j x hx
          · rw [if_pos ⟨by omega, by rw [bcells_len]; omega, by rw [hcs]; omega⟩]
            rw [List.getElem?_append_right (by omega)] at hx
            rw [bcells_get, hx]
            rfl, by simp; omega⟩ (fun vs' t' fr' h' => by
          rw [hgW] at h'
          cases h'
          exact ⟨_, _, putBlk_at hgW _, wrA_size _ _ _⟩)
      have hW2 := ((putBlk_chg W g (.cells (wrA cur l.length (bcells s)) 5 frb)).other b hbg.symm).trans hW
      refine (Go.Proofs.YthmfeheegoalfaaDoorBld.wb_any b c0 _ _ _ _ _ _ w W1 W _ hV hcc (by simp [World.cell?, hW1]) hrun (by simp [World.cell?, hW2]) (frozen_free hW2 hf1)).mono fun e w' hh' => ?_
      obtain ⟨rfl, rfl⟩ := hh'
      refine ⟨_, Γ, _, _, rfl, .refl Γ, hret _, bld_fin HW2 (o := some bid) (n := l.length) (c := cap) (by simp [set_at, hidb.symm]) hrho hW2 hf0 hf1 (o' := some bid) (n' := l.length + s.length) (c' := cap) (.inr ⟨bid, g, rfl, hgr, rfl⟩), rfl, ⟨by simpa [set_n] using hid, .inr ⟨bid, cap, hlt, by simpa [set_n] using hbn, by simp [set_at], by simp [set_at, hidb]⟩⟩, ?_⟩
      exact (((ExtX.of (Ext.refl h)).set (.inl (Nat.le_refl _)) _).set (.inl (Nat.le_of_lt hlt)) _).set (.inl (Nat.le_refl _)) _
    · have hpos : 0 < s.length := by omega
      have hold : (Builtin.firstCells inf.size l.length (.slice (some ⟨g, 0, none⟩) l.length cap)).run P W.drew = .ok (bcells l).toArray W.drew := by
        refine run_firstCells_some (P := P) W.drew _ _ ⟨g, 0, none⟩ _ cap (bcells l) (by rw [bcells_len, hsz, Nat.mul_one]) (fun j v hv => ?_)
        rw [bcells_get, Option.map_eq_some_iff] at hv
        obtain ⟨x, hx, rfl⟩ := hv
        have hc1 := hcell j x hx
        have : W.drew.heap[g]? = some (.cells cur 5 frb) := hgW
        rw [addr_add, Nat.zero_add]
        simp [World.cell?, this, hc1]
      have hrun := append_grow (ty := 37) (w := W) (us := bcells l) (new := bcells s) hte hi hz hst (n := l.length) (c := cap) (hly W _) hold hnwd (by omega) (by rw [hby]; omega) (by omega)
      have hcap := grownCap_ge W (l.length + s.length) cap 5
      generalize grownCap W (l.length + s.length) cap 5 = cap2 at hrun hcap
      generalize harr : ((bcells l ++ bcells s).toArray ++ Builtin.zeroCells (Value.int IntKind.u8 0).cells (cap2 - (l.length + s.length))) = arr at hrun
      have hasz : arr.size = cap2 := by
        rw [← harr]
        simp only [Array.size_append, List.size_toArray, List.length_append, bcells_len, size_zeroCells]
        first | omega | (simp [Value.cells]; omega) | (show l.length + s.length + (cap2 - (l.length + s.length)) * 1 = cap2; omega)
      have HW2 := HW.drew.new (.cells arr 5) (.buf 5 (l ++ s) cap2) (fun w' hw' => ⟨arr, (0, 0), hw', hasz, by simpa using hcap, fun j x hx => by
        have hj := (List.getElem?_eq_some_iff.1 hx).1
        simp only [List.length_append] at hj
        rw [← harr, Array.getElem?_append_left (by simp [bcells_len]; exact hj)]
        have : (bcells l ++ bcells s) = bcells (l ++ s) := by simp [bcells]
        rw [this]
        simp [bcells_get, hx], Nat.zero_le _⟩)
      have hbl : b < W.heap.size := size_pos_of hW
      have hne : id ≠ h.n := by omega
      have hW2 : (W.drew.alloc (.cells arr 5)).heap[b]? = some (.cells #[.pointer (some ⟨b, 0, none⟩), .slice (some ⟨g, 0, none⟩) l.length cap] 41 fr) := (heap_alloc_old W.drew _ b hbl).trans hW
      refine (Go.Proofs.YthmfeheegoalfaaDoorBld.wb_any b c0 _ _ _ _ _ _ w W1 W _ hV hcc (by simp [World.cell?, hW1]) hrun (by simp [World.cell?, hW2]) (frozen_free hW2 hf1)).mono fun e w' hh' => ?_
      obtain ⟨rfl, rfl⟩ := hh'
      have hle := HW.drew.le_obj W.drew.heap.size
      refine ⟨_, _, _, _, rfl, hle, hret _, bld_fin HW2 (o := some bid) (n := l.length) (c := cap) (by simp [alloc_at, set_n, set_at, hne]) (hle.rho hrho) hW2 hf0 hf1 (o' := some h.n) (n' := l.length + s.length) (c' := cap2) (.inr ⟨h.n, W.drew.heap.size, rfl, by simp [Con.withObj, set_n], rfl⟩), rfl, ⟨by simp [set_n, alloc_n]; omega, .inr ⟨h.n, cap2, hid, by simp [set_n, alloc_n], by simp [set_at], ?_⟩⟩, ?_⟩
      · have : h.n ≠ id := fun e => hne e.symm
        simp [set_at, alloc_at, set_n, this]
      · exact (((ExtX.of (Ext.refl h)).set (.inl (Nat.le_refl _)) _).alloc _).set (.inl (Nat.le_refl _)) _
theorem wb_call (id : Nat) (l : List UInt8) (c : UInt8) (h : AH) (hb : Bld h id l) (hl : l.length + 1 ≤ 140737488355328) : Call P w0 strings_Builder_WriteByte [.ptr id 0, .v (.int .u8 (c.toNat : Int))] h
    (fun v h' => v = .v .nilIface ∧ Bld h' id (l ++ [c]) ∧ ExtX (fun i => id ≤ i) (fun _ => False) h h') := wb_core id l [c] c rfl h hb (by simpa using hl)
end Go.Abs.F
