/- A program logic over abstract states, 10: bytes of strings, rows made, maps, letters of strings. -/
import Derived.Test.YtnpdmkbfphcioaaGreatDoorAbsI
import Derived.Test.YtnpdmkbfphcioaaGreatDoorAbsG
namespace Go.Abs
open Go Go.RowKit
set_option linter.unusedVariables false
set_option linter.unusedSimpArgs false

section
variable {P : Program} {w0 : World} {Γ : Con} {h : AH} {w : World}

/-! '[]byte(s)' -/
theorem bytesWorld_eq (w : World) (e : TypeId) (s : ByteArray) : Lib.bytesWorld w e s = w.drew.alloc (.cells (Lib.bytesCells w e s) e ((Lib.bytesCells w e s).size, (Lib.bytesCells w e s).size + 1)) := by
  have hh : (Lib.bytesWorld w e s).heap = (w.drew.alloc (.cells (Lib.bytesCells w e s) e ((Lib.bytesCells w e s).size, (Lib.bytesCells w e s).size + 1))).heap := by
    apply Array.ext_getElem?
    intro k
    by_cases hk : k < w.heap.size
    · rw [Lib.bytesWorld_at_old w e s k hk, heap_alloc_old _ _ k (by simpa using hk)]; rfl
    · by_cases hk2 : k = w.heap.size
      · subst hk2
        rw [Lib.bytesWorld_at_new]
        exact (heap_alloc_new w.drew _).symm
      · rw [Array.getElem?_eq_none (by rw [Lib.bytesWorld_size]; omega), Array.getElem?_eq_none (by simp; omega)]
  have : ∀ a b : World, a.heap = b.heap → a.tape = b.tape → a.drawn = b.drawn → a.os = b.os → a.output = b.output → a = b := by
    intro a b h1 h2 h3 h4 h5; cases a; cases b; simp_all
  refine this _ _ hh ?_ ?_ ?_ ?_ <;> (simp only [Lib.bytesWorld, World.freeze]; split <;> rfl)
theorem bytesCells_at (w : World) (e : TypeId) (s : ByteArray) (i : Nat) (hi : i < s.size) : (Lib.bytesCells w e s)[i]? = some (.int .u8 (s.data.toList[i]'(by simpa using hi)).toNat) := by
  unfold Lib.bytesCells
  rw [Array.getElem?_append_left (by simpa using hi)]
  simp [hi]
theorem bytesCells_size (w : World) (e : TypeId) (s : ByteArray) : s.size ≤ (Lib.bytesCells w e s).size := by
  simp [Lib.bytesCells]
theorem run_s2b {src dst e : TypeId} {u : TypeDesc} (hs : P.underlying src = some u) (hd : P.underlying dst = some (.slice e)) (he : P.underlying e = some (.int .u8)) (H : WR w0 Γ h w) (s : ByteArray) :
    ∃ v w', (convert src dst (.string s)).run P w = .ok v w' ∧
      (∃ Γ', Γ.le Γ' ∧ RV Γ' (.row h.n 0 s.size none) v ∧ WR w0 Γ' (h.alloc (.cells (s.data.toList.map fun b => .v (.int .u8 b.toNat)))) w') ∧
      (∃ Γ', Γ.le Γ' ∧ RV Γ' (.list 1 (byteRows s) .no) v ∧ WR w0 Γ' h w') := by
  refine ⟨_, _, Lib.run_convert_string_bytes w src dst e s hs hd he, ?_, ?_⟩
  · rw [bytesWorld_eq]
    refine ⟨_, H.drew.le_obj _, .row (by simp [Con.withObj]) (grownCap_ge w _ _ _) (fun k hk => by cases hk), H.drew.new _ _ (fun w' hw' => ⟨_, _, _, hw', by simpa using bytesCells_size w e s, fun i hi hi' => ?_⟩)⟩
    have hi2 : i < s.size := by simpa using hi
    have := bytesCells_at w e s i hi2
    rw [Array.getElem?_eq_getElem hi'] at this
    injection this with this
    rw [this]
    exact ⟨by simp only [List.getElem_map]; exact .v _, rfl, by simp only [free]; omega⟩
  · rw [bytesWorld_eq]
    obtain ⟨HW, hle⟩ := H.drew.row (Lib.bytesCells w e s) e ((Lib.bytesCells w e s).size, (Lib.bytesCells w e s).size + 1) s.size
    refine ⟨_, hle, ?_, HW⟩
    have := RV.mk_list (Γ := Γ.withRow w.drew.heap.size fun o => if o < s.size then (Lib.bytesCells w e s)[o]? else none) (sz := 1) (rows := byteRows s) (tok := .no) (b := w.heap.size) (o := 0) (c := grownCap w s.size 0 e)
      (us := s.data.toList.map fun b => .int .u8 b.toNat) (by rw [byteRows_len]; exact grownCap_ge w _ _ _) (byteRows_row s) (by rw [byteRows_flat]; exact Cells_bytes _) (fun k hk => by
        have hk2 : k < s.size := by simpa using hk
        simp only [Con.withRow, World.size_drew, if_true, Nat.zero_add]
        rw [if_pos hk2, bytesCells_at w e s k hk2]
        simp) trivial
    rwa [byteRows_len] at this

/-! 'string(b)' -/
theorem bytes_nums : ∀ {cs : List AV} {l : List UInt8} {us : List Value}, bytesOfCells cs = some l → Cells Γ cs us → ∃ ns : List Int, us = ns.map (Value.int .u8) ∧ ns.map (fun n => UInt8.ofNat n.toNat) = l
  | [], l, us, hb, hc => by
    simp only [bytesOfCells, Option.some.injEq] at hb
    have : us = [] := List.eq_nil_of_length_eq_zero (by simpa using hc.len)
    exact ⟨[], by simp [this], by simp [hb]⟩
  | a :: cs, l, us, hb, hc => by
    unfold bytesOfCells at hb
    split at hb
    · cases ‹_ :: _ = []›
    · rename_i n r e
      injection e with e1 e2
      subst e1; subst e2
      simp only [Option.map_eq_some_iff] at hb
      obtain ⟨l', hl', rfl⟩ := hb
      cases us with
      | nil => have := hc.len; simp at this
      | cons u us =>
        have h0 := (hc.at_ 0 (by simp) (by simp)).inv_v
        simp only [List.getElem_cons_zero] at h0
        have hc' : Cells Γ cs us := ⟨by have := hc.len; simpa using this, fun i hi hi' => hc.at_ (i + 1) (by simpa using hi) (by simpa using hi'), fun x hx => hc.one x (by simp [hx])⟩
        obtain ⟨ns, h1, h2⟩ := bytes_nums hl' hc'
        exact ⟨n :: ns, by simp [h0, h1], by simp [h2]⟩
    · cases hb
theorem fold_push : ∀ (ns : List Int) (s : ByteArray), ns.foldl (fun r n => r.push (UInt8.ofNat n.toNat)) s = ⟨s.data ++ (ns.map fun n => UInt8.ofNat n.toNat).toArray⟩
  | [], s => by apply ByteArray.ext; simp
  | n :: ns, s => by
    rw [List.foldl_cons, fold_push ns]
    apply ByteArray.ext
    simp [ByteArray.push]
theorem run_b2s {src dst e : TypeId} (hs : P.underlying src = some (.slice e)) (he : P.underlying e = some (.int .u8)) (hd : P.underlying dst = some .string) (H : WR w0 Γ h w) {A : AV} {x : Value} (hx : RV Γ A x) {rows : List (List AV)} (hr : srcRows 1 h A = some rows)
    (hsl : ∃ b n c, x = .slice b n c) {l : List UInt8} (hl : bytesOfCells rows.flatten = some l) : (convert src dst x).run P w = .ok (.string ⟨l.toArray⟩) w := by
  obtain ⟨us, hly, hfn, hcs, hul, hrsz, _⟩ := srcRows_sound (P := P) H hr hx
  obtain ⟨ns, rfl, rfl⟩ := bytes_nums hl hcs
  obtain ⟨b, n, c, rfl⟩ := hsl
  rw [run_convert_bytes_string w src dst e b n c hs he hd]
  simp only [Builtin.lenOf, Sem.run_pure, Result.ok.injEq, and_true] at hly
  subst hly
  have hf := hfn w (fun a v hv => hv)
  cases b with
  | none =>
    simp only [Builtin.firstCells, Sem.run_pure, Result.ok.injEq, and_true] at hf
    have : ns = [] := by
      have := congrArg Array.size hf
      simp at this
      exact List.eq_nil_of_length_eq_zero this.symm
    subst this
    simp [Conv.bytesToString]; rfl
  | some a =>
    simp only [Builtin.firstCells, Nat.mul_one] at hf
    rw [run_bytesToString w a rows.length c ns hf, fold_push]
    simp

/-! 'make([]T, n)' -/
theorem run_mks {t e : TypeId} {i : TypeInfo} {z : Value} (ht : P.underlying t = some (.slice e)) (hi : P.info? e = some i) (hz : i.zero = some z) (hzs : z.cells.size = i.size) (hz1 : z.cells.toList.all (·.oneCell') = true) (szs : List Nat) (H : WR w0 Γ h w) {l c : Int}
    (h0 : 0 ≤ l) (hlc : l ≤ c) (hb : c * i.bytes ≤ 140737488355328) (h63 : c ≤ 9223372036854775807) :
    ∃ v w' Γ', (Instr.makeSlice t (.int .i64 l) (.int .i64 c)).run P w = .ok v w' ∧ Γ.le Γ' ∧ RV Γ' (.row h.n 0 l.toNat (some c.toNat)) v ∧ WR w0 Γ' (h.alloc (.cells ((List.replicate c.toNat (zeroA szs z.cells.toList)).flatten))) w' := by
  have hrun := run_make (P := P) w t e i z ht hi hz .i64 .i64 l c h0 hlc (by rw [Int.mul_comm]; omega) h63
  refine ⟨_, _, _, hrun, H.le_obj _, .row (by simp [Con.withObj]) (by omega) (fun k hk => by injection hk with hk; exact hk.symm), H.new _ _ (fun w' hw' => objAt_cells hw' ?_)⟩
  have hzc := zeroA_sound (Γ := Γ.withObj h.n w.heap.size) szs z.cells.toList hz1
  have := litCells hzc c.toNat
  unfold madeCells
  rw [← hzs]
  exact this

/-! maps -/
theorem checkKey_plain {t : TypeId} {ck : CK} (ht : ckOf P t = some ck) (b : Bool) (d : Nat) (x : Value) (w : World) : (Instr.checkKey b (d + 1) t x).run P w = .ok () w := by
  unfold ckOf at ht
  unfold Instr.checkKey
  split at ht <;> simp at ht <;> (rename_i hu; rw [Sem.run_bind, run_underlying hu]; simp only [Result.andThen_ok]; cases x <;> rfl)
def descOk : TypeDesc → CK → Prop
  | .int _, .int => True
  | .string, .str => True
  | .bool, .bool => True
  | _, _ => False
theorem sameNow_key {d : TypeDesc} {ck : CK} (hd : descOk d ck) {k k' : Value} {b : Bool} (hs : sameKey ck k k' = some b) : Instr.sameNow d k k' = some b := by
  unfold sameKey at hs
  split at hs
  · cases d <;> simp only [descOk] at hd
    simp only [Instr.sameNow]; exact hs
  · cases d <;> simp only [descOk] at hd
    simp only [Instr.sameNow]; exact hs
  · cases d <;> simp only [descOk] at hd
    simp only [Instr.sameNow]; exact hs
  · cases hs
structure MapAt (Γ : Con) (es : List (Value × AV)) (ms : List MapEntry) : Prop where
  len : ms.length = es.length
  at_ : ∀ (i : Nat) (h : i < es.length) (h' : i < ms.length), ms[i].key = es[i].1 ∧ RV Γ es[i].2 ms[i].val
theorem findNow_sound {d : TypeDesc} {ck : CK} (hd : descOk d ck) {k : Value} :
    ∀ (es : List (Value × AV)) (ms : List MapEntry) (i : Nat) (r : Option (Nat × AV)), MapAt Γ es ms → findK ck k es i = some r →
      match r with
      | none => Instr.findNow d k ms i = some none
      | some (j, a) => ∃ v, Instr.findNow d k ms i = some (some (j, v)) ∧ RV Γ a v ∧ i ≤ j ∧ j - i < es.length ∧ ∃ h : j - i < ms.length, sameKey ck k ms[j - i].key = some true
  | [], ms, i, r, hm, hf => by
    simp only [findK, Option.some.injEq] at hf
    subst hf
    have : ms = [] := List.eq_nil_of_length_eq_zero (by simpa using hm.len)
    subst this; rfl
  | e :: es, ms, i, r, hm, hf => by
    cases ms with
    | nil => have := hm.len; simp at this
    | cons m ms =>
      have h0 := hm.at_ 0 (by simp) (by simp)
      simp only [List.getElem_cons_zero] at h0
      have hm' : MapAt Γ es ms := ⟨by have := hm.len; simpa using this, fun i hi hi' => hm.at_ (i + 1) (by simpa using hi) (by simpa using hi')⟩
      simp only [findK] at hf
      split at hf
      · rename_i hs
        injection hf with hf
        subst hf
        have hsn := sameNow_key hd hs
        refine ⟨m.val, ?_, h0.2, Nat.le_refl _, by simp, by simp, ?_⟩
        · simp only [Instr.findNow, h0.1, hsn]
        · simp only [Nat.sub_self, List.getElem_cons_zero, h0.1]; exact hs
      · rename_i hs
        have hsn := sameNow_key hd hs
        have ih := findNow_sound hd es ms (i + 1) r hm' hf
        have e1 : Instr.findNow d k (m :: ms) i = Instr.findNow d k ms (i + 1) := by simp only [Instr.findNow, h0.1, hsn]
        cases r with
        | none => simp only at ih ⊢; rw [e1]; exact ih
        | some ja =>
          obtain ⟨j, a⟩ := ja
          simp only at ih ⊢
          obtain ⟨v, g1, g2, g3, g4, g5, g6⟩ := ih
          refine ⟨v, by rw [e1]; exact g1, g2, by omega, by simp; omega, by simp; omega, ?_⟩
          have e2 : j - i = j - (i + 1) + 1 := by omega
          simp only [e2, List.getElem_cons_succ]
          exact g6
      · cases hf
theorem ckOf_desc {t : TypeId} {ck : CK} (ht : ckOf P t = some ck) : ∃ d, P.underlying t = some d ∧ descOk d ck := by
  unfold ckOf at ht
  split at ht <;> simp at ht <;> (subst ht; rename_i hu; exact ⟨_, hu, trivial⟩)
theorem run_findKey' {t : TypeId} {ck : CK} (ht : ckOf P t = some ck) {k : Value} {es : List (Value × AV)} {ms : List MapEntry} (hm : MapAt Γ es ms) {r : Option (Nat × AV)} (hf : findK ck k es 0 = some r) (w : World) :
    match r with
    | none => (Instr.findKey t k ms).run P w = .ok none w
    | some (j, a) => ∃ v, (Instr.findKey t k ms).run P w = .ok (some (j, v)) w ∧ RV Γ a v ∧ j < es.length ∧ ∃ h : j < ms.length, sameKey ck k ms[j].key = some true := by
  obtain ⟨d, hd, hm'⟩ := ckOf_desc ht
  have := findNow_sound hm' es ms 0 r hm hf
  cases r with
  | none => simp only at this ⊢; simp only [Instr.findKey, Sem.run_bind, run_underlying hd, Result.andThen_ok, this, Sem.run_pure]
  | some ja =>
    obtain ⟨j, a⟩ := ja
    simp only at this ⊢
    obtain ⟨v, g1, g2, _, g4, g5, g6⟩ := this
    exact ⟨v, by simp only [Instr.findKey, Sem.run_bind, run_underlying hd, Result.andThen_ok, g1, Sem.run_pure], g2, by simpa using g4, by simpa using g5, by simpa using g6⟩
theorem WR.mapAt (H : WR w0 Γ h w) {id b : Nat} {es : List (Value × AV)} (ho : h.objs id = some (.map es)) (hb : Γ.rho id = some b) : ∃ ms clock, w.heap[b]? = some (.map ms clock) ∧ MapAt Γ es ms.toList := by
  obtain ⟨b', hb', _, ⟨ms, clock, hh, hl, hc⟩, _⟩ := H.obj ho
  obtain rfl : b = b' := by rw [hb] at hb'; injection hb'
  exact ⟨ms, clock, hh, by simpa using hl, fun i hi hi' => by rw [Array.getElem_toList]; exact hc i hi (by simpa using hi')⟩
theorem run_getMap {b : Nat} {ms : Array MapEntry} {clock : Nat} (hb : w.heap[b]? = some (.map ms clock)) : (getObj b).run P w = .ok (.map ms clock) w := by
  simp [getObj, Sem.run, hb]
theorem run_setMap {b : Nat} {ms : Array MapEntry} {clock : Nat} (hb : w.heap[b]? = some (.map ms clock)) (o : Obj) : (setObj b o).run P w = .ok () (putBlk w b o) := by
  simp [setObj, Sem.run, hb]; rfl
theorem objAt_map {es : List (Value × AV)} {ms : Array MapEntry} {clock : Nat} {w' : World} {b : Nat} (hb : w'.heap[b]? = some (.map ms clock)) (hm : MapAt Γ es ms.toList) : ObjAt Γ w' b (.map es) :=
  ⟨ms, clock, hb, by simpa using hm.len, fun i hi hi' => by have := hm.at_ i hi (by simpa using hi'); rwa [Array.getElem_toList] at this⟩

theorem run_look {mt kt et : TypeId} {ck : CK} {inf : TypeInfo} {zv : Value} (ht : P.underlying mt = some (.map kt et)) (hk : ckOf P kt = some ck) (hi : P.info? et = some inf) (hz : inf.zero = some zv) {z : AV} (hzv : ∀ Γ : Con, RV Γ z zv) (ok : Bool) (H : WR w0 Γ h w) {x : AV} {X k : Value}
    (hx : RV Γ x X) {a : AV} (hs : lookA h ck z ok k x = some a) : ∃ v, (Instr.lookup mt X k ok).run P w = .ok v w ∧ RV Γ a v := by
  have hzr : (zeroValue et).run P w = .ok zv w := by simp [zeroValue, typeInfo, hi, hz]
  have fin : ∀ {v' : Value} {a' : AV} (b : Bool), RV Γ a' v' → a = (if ok then .tup [a', .v (.bool b)] else a') → RV Γ a (if ok then .tuple #[v', .bool b] else v') := by
    intro v' a' b hv ha
    subst ha
    cases ok
    · exact hv
    · refine .tup rfl (fun i hi hi' => ?_)
      match i, hi with
      | 0, _ => exact hv
      | 1, _ => exact .v _
  unfold lookA at hs
  split at hs
  · rename_i id
    obtain ⟨b, hb, rfl⟩ := hx.inv_mapr
    split at hs
    · rename_i es ho
      obtain ⟨ms, clock, hh, hm⟩ := H.mapAt ho hb
      have hck := checkKey_plain hk ms.isEmpty 9999 k w
      split at hs
      · rename_i j a' hf
        have := run_findKey' hk hm hf w
        simp only at this
        obtain ⟨v, g1, g2, _⟩ := this
        injection hs with hs
        refine ⟨_, ?_, fin true g2 hs.symm⟩
        simp only [Instr.lookup, Sem.run_bind, run_underlying ht, Result.andThen_ok, run_getMap hh, Sem.run_pure, show (Instr.checkKey ms.isEmpty 10000 kt k).run P w = .ok () w from hck, g1]
      · rename_i hf
        have := run_findKey' hk hm hf w
        simp only at this
        injection hs with hs
        refine ⟨_, ?_, fin false (hzv Γ) hs.symm⟩
        simp only [Instr.lookup, Sem.run_bind, run_underlying ht, Result.andThen_ok, run_getMap hh, Sem.run_pure, show (Instr.checkKey ms.isEmpty 10000 kt k).run P w = .ok () w from hck, this, hzr]
      · cases hs
    · cases hs
  · injection hs with hs
    rw [hx.inv_v]
    have hck := checkKey_plain hk true 9999 k w
    have hfk : (Instr.findKey kt k []).run P w = .ok none w := by
      obtain ⟨d, hd, _⟩ := ckOf_desc hk
      simp [Instr.findKey, run_underlying hd, Instr.findNow]
    refine ⟨_, ?_, fin false (hzv Γ) hs.symm⟩
    simp only [Instr.lookup, Sem.run_bind, run_underlying ht, Result.andThen_ok, Sem.run_pure, show (#[] : Array MapEntry).isEmpty = true from rfl, show (Instr.checkKey true 10000 kt k).run P w = .ok () w from hck, hfk, hzr]
  · cases hs
theorem sameKey_bits {ck : CK} {k k' : Value} (hs : sameKey ck k k' = some true) (d : Nat) : Instr.sameBits (d + 1) k' k = true := by
  unfold sameKey at hs
  split at hs
  · split at hs
    · rename_i hkk
      injection hs with hs
      simp only [beq_iff_eq] at hs
      subst hs; subst hkk
      simp [Instr.sameBits]
    · cases hs
  · injection hs with hs
    rw [beq_toListBytes] at hs
    simp only [beq_iff_eq] at hs
    simp [Instr.sameBits, beq_toListBytes, hs]
  · injection hs with hs
    simp only [beq_iff_eq] at hs
    subst hs
    simp [Instr.sameBits]
  · cases hs
theorem run_upd {mt kt et : TypeId} {ck : CK} (ht : P.underlying mt = some (.map kt et)) (hk : ckOf P kt = some ck) (H : WR w0 Γ h w) {id : Nat} {X k V : Value} {a : AV} (hx : RV Γ (.mapr id) X) (hv : RV Γ a V) {es : List (Value × AV)} (ho : h.objs id = some (.map es)) {h' : AH}
    (hs : updA h ck id es k a = some h') : ∃ w', (Instr.mapUpdate mt X k V).run P w = .ok () w' ∧ WR w0 Γ h' w' := by
  obtain ⟨b, hb, rfl⟩ := hx.inv_mapr
  obtain ⟨ms, clock, hh, hm⟩ := H.mapAt ho hb
  have hck := checkKey_plain hk false 9999 k w
  have hml := hm.len
  simp only [Array.length_toList] at hml
  first | unfold updA at hs | unfold delA at hs
  split at hs
  · rename_i i a' hf
    injection hs with hs
    subst hs
    have := run_findKey' hk hm hf w
    simp only at this
    obtain ⟨v, g1, _, g3, g4, g5⟩ := this
    have g4' : i < ms.size := by simpa using g4
    rw [Array.getElem_toList] at g5
    have hbits : Instr.sameBits 10000 ms[i].key k = true := sameKey_bits g5 9999
    refine ⟨_, ?_, H.turn ho hb (putBlk_chg w b (.map (ms.modify i fun e => { e with key := k, val := V }) clock)) (objAt_map (putBlk_at hh _) ?_) (fun _ _ _ h' => by rw [hh] at h'; cases h')⟩
    · simp only [Instr.mapUpdate, Sem.run_bind, run_underlying ht, Result.andThen_ok, run_getMap hh, show (Instr.checkKey false 10000 kt k).run P w = .ok () w from hck, g1, Array.getElem?_eq_getElem g4', Option.map_some, Option.getD_some, Instr.keyThatStays, hbits, if_true, Sem.run_pure, run_setMap hh]
    · refine ⟨by simp [hml], fun j hj hj' => ?_⟩
      simp only [List.length_set] at hj
      have hj2 : j < ms.size := by omega
      have hh2 := hm.at_ j hj (by simpa using hj2)
      simp only [Array.getElem_toList, Array.getElem_modify, List.getElem_set]
      rw [Array.getElem_toList] at hh2
      by_cases e : i = j
      · simp only [e, if_true]; exact ⟨trivial, hv⟩
      · simp only [e, if_false]; exact hh2
  · rename_i hf
    injection hs with hs
    subst hs
    have := run_findKey' hk hm hf w
    simp only at this
    refine ⟨_, ?_, H.turn ho hb (putBlk_chg w b (.map (ms.push { key := k, val := V, born := clock }) (clock + 1))) (objAt_map (putBlk_at hh _) ?_) (fun _ _ _ h' => by rw [hh] at h'; cases h')⟩
    · simp only [Instr.mapUpdate, Sem.run_bind, run_underlying ht, Result.andThen_ok, run_getMap hh, show (Instr.checkKey false 10000 kt k).run P w = .ok () w from hck, this, run_setMap hh]
    · refine ⟨by simp [hml], fun j hj hj' => ?_⟩
      simp only [List.length_append, List.length_singleton] at hj
      simp only [Array.toList_push]
      by_cases e : j < es.length
      · rw [List.getElem_append_left (by simpa [hml] using e), List.getElem_append_left e]
        exact hm.at_ j e (by simpa [hml] using e)
      · obtain rfl : j = es.length := by omega
        rw [List.getElem_append_right (by simp [hml]), List.getElem_append_right (by omega)]
        simp only [Array.length_toList, hml, Nat.sub_self, List.getElem_cons_zero]
        exact ⟨trivial, hv⟩
  · cases hs
theorem run_del {mt kt et ty tk : TypeId} {ck : CK} (ht : P.underlying mt = some (.map kt et)) (hk : ckOf P kt = some ck) (H : WR w0 Γ h w) {id : Nat} {X k : Value} (hx : RV Γ (.mapr id) X) {es : List (Value × AV)} (ho : h.objs id = some (.map es)) {h' : AH}
    (hs : delA h ck id es k = some h') : ∃ w', (Builtin.delete_ #[mt, tk] ty #[X, k]).run P w = .ok (.tuple #[]) w' ∧ WR w0 Γ h' w' := by
  obtain ⟨b, hb, rfl⟩ := hx.inv_mapr
  obtain ⟨ms, clock, hh, hm⟩ := H.mapAt ho hb
  have hck := checkKey_plain hk ms.isEmpty 9999 k w
  have hml := hm.len
  simp only [Array.length_toList] at hml
  first | unfold updA at hs | unfold delA at hs
  split at hs
  · rename_i i a' hf
    injection hs with hs
    subst hs
    have := run_findKey' hk hm hf w
    simp only at this
    obtain ⟨v, g1, _, g3, g4, g5⟩ := this
    have g4' : i < ms.size := by simpa using g4
    refine ⟨_, ?_, H.turn ho hb (putBlk_chg w b (.map (ms.eraseIdxIfInBounds i) clock)) (objAt_map (putBlk_at hh _) ?_) (fun _ _ _ h' => by rw [hh] at h'; cases h')⟩
    · simp only [Builtin.delete_, List.getElem?_toArray, List.getElem?_cons_zero, List.getElem?_cons_succ, Sem.run_bind, run_underlying ht, Result.andThen_ok, run_getMap hh, show (Instr.checkKey ms.isEmpty 10000 kt k).run P w = .ok () w from hck, g1, run_setMap hh, Sem.run_pure]
    · have e1 : (ms.eraseIdxIfInBounds i).toList = ms.toList.eraseIdx i := by simp [Array.eraseIdxIfInBounds, g4']
      rw [e1]
      refine ⟨by simp [List.length_eraseIdx, hml], fun j hj hj' => ?_⟩
      simp only [List.getElem_eraseIdx]
      rw [List.length_eraseIdx, if_pos g3] at hj
      by_cases e : j < i
      · simp only [e, dite_true]
        exact hm.at_ j (by omega) (by simp; omega)
      · simp only [e, dite_false]
        exact hm.at_ (j + 1) (by omega) (by simp; omega)
  · rename_i hf
    injection hs with hs
    subst hs
    have := run_findKey' hk hm hf w
    simp only at this
    have e2 : AH.set h id (.map es) = h := by
      cases h
      simp only [AH.set, AH.mk.injEq, and_true]
      funext i
      split
      · rename_i e; subst e; exact ho.symm
      · rfl
    refine ⟨_, ?_, e2 ▸ H.turn ho hb (putBlk_chg w b (.map ms clock)) (objAt_map (putBlk_at hh _) hm) (fun _ _ _ h' => by rw [hh] at h'; cases h')⟩
    simp only [Builtin.delete_, List.getElem?_toArray, List.getElem?_cons_zero, List.getElem?_cons_succ, Sem.run_bind, run_underlying ht, Result.andThen_ok, run_getMap hh, show (Instr.checkKey ms.isEmpty 10000 kt k).run P w = .ok () w from hck, this, run_setMap hh, Sem.run_pure]
  · cases hs

/-! letters of a string -/
theorem run_nxt {id : Nat} {X : Value} (H : WR w0 Γ h w) (hx : RV Γ (.ptr id 0) X) {s : ByteArray} {pos : Nat} (ho : h.objs id = some (.siter s pos)) (ty : TypeId) :
    ∃ w', (Instr.next X true ty).run P w = .ok (if pos < s.size then .tuple #[.bool true, .int .i64 pos, .int .i32 (Utf8.decode s pos).1] else .tuple #[.bool false]) w' ∧
      WR w0 Γ (if pos < s.size then h.set id (.siter s (pos + (Utf8.decode s pos).2)) else h) w' := by
  obtain ⟨b, hb, rfl⟩ := hx.inv_ptr
  obtain ⟨b', hb', _, hh, _⟩ := H.obj ho
  obtain rfl : b = b' := by rw [hb] at hb'; injection hb'
  have hg : (getObj b).run P w = .ok (.stringIter s pos) w := by
    have hh' : w.heap[b]? = some (.stringIter s pos) := hh
    simp [getObj, Sem.run, hh']
  by_cases hp : pos < s.size
  · rw [if_pos hp, if_pos hp]
    refine ⟨putBlk w b (.stringIter s (pos + (Utf8.decode s pos).2)), ?_, H.turn ho hb (putBlk_chg w b _) (putBlk_at hh _) (fun _ _ _ h' => by rw [hh] at h'; cases h')⟩
    have hset : (setObj b (.stringIter s (pos + (Utf8.decode s pos).2))).run P w = .ok () (putBlk w b (.stringIter s (pos + (Utf8.decode s pos).2))) := by
      have hh' : w.heap[b]? = some (.stringIter s pos) := hh
      simp [setObj, Sem.run, hh']; rfl
    simp only [Instr.next, Sem.run_bind, hg, Result.andThen_ok, hp, if_true, hset, Sem.run_pure]
    rfl
  · rw [if_neg hp, if_neg hp]
    refine ⟨w, ?_, H⟩
    simp only [Instr.next, Sem.run_bind, hg, Result.andThen_ok, hp, if_false, Sem.run_pure]
end
end Go.Abs
