/- What the proof needs, part 20: Layer 7: arguments as bytes; what feeding keeps; Layer 7: SendPlays: whatever the next hop says, the program and the document say the same. -/
import Derived.Test.YtlmgpkopcgcbgaaDoorQSendPlays17
import Derived.Test.YtlmgpkopcgcbgaaDoorQSendPlays18
import Derived.Test.YtlmgpkopcgcbgaaDoorQSendPlays19
/- Layer 7: arguments as bytes; what feeding keeps. -/
namespace Go.Abs.F
open Go Go.Abs
set_option maxRecDepth 10000
set_option maxHeartbeats 20000000
set_option linter.unusedSimpArgs false
set_option linter.unusedVariables false
variable {w0 : World}
theorem u8_wf {n : Int} (h : (Lit.int .u8 n).wf = true) : 0 ≤ n ∧ n ≤ 255 := by
  simp [Lit.wf, IntKind.min, IntKind.max, IntKind.signed, IntKind.bits] at h
  exact ⟨by omega, by omega⟩
theorem brows_key {f : Int → List AV} (hf : ∀ x, f x = [AV.v (.int .u8 x)]) : ∀ m : List Int, (∀ x ∈ m, 0 ≤ x ∧ x ≤ 255) → m.map f = brows (m.map fun x : Int => UInt8.ofNat x.toNat)
  | [], _ => rfl
  | x :: m, hm => by
    have hx := hm x (by simp)
    have ih := brows_key hf m (fun y hy => hm y (List.mem_cons_of_mem _ hy))
    simp only [List.map_cons, brows] at ih ⊢
    have e : (((UInt8.ofNat x.toNat).toNat : Nat) : Int) = x := by rw [UInt8.toNat_ofNat']; omega
    rw [ih, hf, e]
theorem brows_ty (l : (Ty.slice (.int .u8)).D) (hw : (Ty.slice (.int .u8)).wf l) : ∃ b : List UInt8, (Ty.slice (.int .u8)).val l = .list 1 (brows b) .no ∧ b.length = List.length l := by
  refine ⟨List.map (fun x : Int => UInt8.ofNat x.toNat) l, ?_, List.length_map _⟩
  simp only [Ty.val]
  congr 1
  exact brows_key (f := (Ty.int .u8).enc) (fun x => rfl) l (fun x hx => u8_wf (hw.2 x hx))
/-- Many rows of bytes. -/
def lrows (l : List L8) : List (List AV) := l.map fun b => [.list 1 (brows b) .no]
theorem lrows_len (l : List L8) : (lrows l).length = l.length := by simp [lrows]
theorem lrows_get (l : List L8) (i : Nat) : (lrows l)[i]? = (l[i]?).map fun b => [.list 1 (brows b) .no] := by simp [lrows]
theorem lrows_ty (l : (Ty.slice (.slice (.int .u8))).D) (hw : (Ty.slice (.slice (.int .u8))).wf l) (hf : (Ty.slice (.slice (.int .u8))).fit 140737488351232 l) : ∃ b : List L8, (Ty.slice (.slice (.int .u8))).val l = .list 1 (lrows b) .no ∧ ∀ x ∈ b, x.length ≤ 140737488351232 := by
  have key : ∀ m : List (List Int), (∀ x, List.Mem x m → (Ty.slice (.int .u8)).wf x) → (∀ x, List.Mem x m → (Ty.slice (.int .u8)).fit 140737488351232 x) → ∃ b : List L8, m.map (Ty.slice (.int .u8)).enc = lrows b ∧ ∀ x ∈ b, x.length ≤ 140737488351232 := by
    intro m
    induction m with
    | nil => exact fun _ _ => ⟨[], rfl, by simp⟩
    | cons a m ih =>
      intro h1 h2
      obtain ⟨b, hb, hl⟩ := ih (fun x hx => h1 x (.tail _ hx)) (fun x hx => h2 x (.tail _ hx))
      obtain ⟨c, hc, hcl⟩ := brows_ty a (h1 a (.head _))
      have hal := (h2 a (.head _)).1
      refine ⟨c :: b, ?_, fun x hx => ?_⟩
      · show [(Ty.slice (.int .u8)).val a] :: m.map (Ty.slice (.int .u8)).enc = [.list 1 (brows c) .no] :: lrows b
        rw [hc, hb]
      · rcases List.mem_cons.1 hx with rfl | hx
        · rw [hcl]; exact hal
        · exact hl x hx
  obtain ⟨b, hb, hl⟩ := key l hw.2 hf.2
  exact ⟨b, by show AV.list 1 (List.map (Ty.slice (.int .u8)).enc l) .no = _; rw [hb], hl⟩
/-! what feeding keeps -/
structure FK (s s' : CS) (n : Nat) (W : L8) : Prop where
  tg : s'.tg = s.tg
  host : s'.host = s.host
  sndr : s'.sndr = s.sndr
  out : s'.out.length ≤ s.out.length + n
  ok : s'.over = false → s'.Ok2 ∧ s'.nls + W.length ≤ s.nls + n ∧ s'.out.length + W.length ≤ s.out.length + n
theorem lines_fk : ∀ (n : Nat) (w : L8) (s : CS), w.length = n → s.over = false → s.Ok2 → FK s (s.lines (crlfS 512 [] w).1) n (crlfS 512 [] w).2 := by
  intro n
  induction n using Nat.strongRecOn with
  | _ n ih =>
    intro w s hn ho hok
    have hcr := crlfS_cut 512 w []
    cases hc : cutL w with
    | none =>
      rw [hc] at hcr
      simp only [List.nil_append] at hcr
      rw [hcr]
      exact ⟨rfl, rfl, rfl, Nat.le_add_right _ _, fun _ => ⟨hok, by dsimp only [CS.lines]; omega, by dsimp only [CS.lines]; omega⟩⟩
    | some p =>
      obtain ⟨a, r⟩ := p
      rw [hc] at hcr
      simp only [List.nil_append] at hcr
      rw [hcr]
      have hlen := cutL_len hc
      have q := line_kept s (lineS 512 a).1 (lineS 512 a).2 hok ho
      generalize lineS 512 a = ln at *
      obtain ⟨k1, k2⟩ := ln
      rw [CS.lines_cons ho]
      dsimp only at *
      generalize s.line k1 k2 = s2 at *
      rcases Bool.eq_false_or_eq_true s2.over with hov | hov
      · rw [CS.lines_over hov]
        refine ⟨q.tg, q.host, q.sndr, ?_, fun e => by rw [hov] at e; cases e⟩
        have := q.out
        omega
      · have f := ih r.length (by omega) r s2 rfl hov (q.ok hov)
        refine ⟨f.tg.trans q.tg, f.host.trans q.host, f.sndr.trans q.sndr, ?_, fun e => ?_⟩
        · have := q.out; have := f.out; omega
        · obtain ⟨f1, f2, f3⟩ := f.ok e
          have := q.out
          have := q.nls
          exact ⟨f1, by omega, by omega⟩
theorem feed_fk (s : CS) (b : L8) (ho : s.over = false) (hok : s.Ok2) : FK s (s.feed b) (s.wait.length + b.length) (s.feed b).wait := by
  unfold CS.feed
  rw [if_neg (by rw [ho]; simp)]
  have f := lines_fk _ (s.wait ++ b) s rfl ho hok
  rw [List.length_append] at f
  exact ⟨f.tg, f.host, f.sndr, f.out, fun e => by
    obtain ⟨f1, f2, f3⟩ := f.ok e
    exact ⟨⟨f1.st, f1.p2, f1.p3, f1.tg⟩, f2, f3⟩⟩
/-- What holds of a session all the time. -/
structure CS.In (s : CS) (n : Nat) : Prop where
  sz : s.Sz
  out : s.out.length ≤ n
  ok : s.over = false → s.Ok2 ∧ s.nls + s.wait.length ≤ n ∧ s.out.length + s.wait.length ≤ n
theorem CS.In.feed {s : CS} {n : Nat} (h : s.In n) (b : L8) : (s.feed b).In (n + b.length) := by
  rcases Bool.eq_false_or_eq_true s.over with ho | ho
  · have e : s.feed b = s := by unfold CS.feed; rw [if_pos ho]
    rw [e]
    exact ⟨h.sz, Nat.le_trans h.out (Nat.le_add_right _ _), fun e => by rw [ho] at e; cases e⟩
  · obtain ⟨h1, h2, h3⟩ := h.ok ho
    have f := feed_fk s b ho h1
    refine ⟨⟨by rw [f.host]; exact h.sz.host, by rw [f.sndr]; exact h.sz.sndr, by rw [f.tg]; exact h.sz.tgs, by rw [f.tg]; exact h.sz.tgl⟩, ?_, fun e => ?_⟩
    · have := f.out; omega
    · obtain ⟨f1, f2, f3⟩ := f.ok e
      exact ⟨f1, by omega, by omega⟩
theorem CS.In.lost {s : CS} {n : Nat} (h : s.In n) : s.lost.In n := by
  unfold CS.lost
  split
  · exact h
  · exact ⟨⟨h.sz.host, h.sz.sndr, h.sz.tgs, h.sz.tgl⟩, Nat.zero_le _, fun e => by cases e⟩
theorem CS.In.outs {s : CS} {n : Nat} (h : s.In n) (o : List L8) (hl : o.length ≤ s.out.length) : ({ s with out := o } : CS).In n :=
  ⟨⟨h.sz.host, h.sz.sndr, h.sz.tgs, h.sz.tgl⟩, Nat.le_trans hl h.out, fun e => by
    obtain ⟨h1, h2, h3⟩ := h.ok e
    exact ⟨⟨h1.st, h1.p2, h1.p3, h1.tg⟩, h2, by show o.length + s.wait.length ≤ n; omega⟩⟩
theorem CS.In.mono {s : CS} {n m : Nat} (h : s.In n) (k : n ≤ m) : s.In m :=
  ⟨h.sz, Nat.le_trans h.out k, fun e => by
    obtain ⟨h1, h2, h3⟩ := h.ok e
    exact ⟨h1, by omega, by omega⟩⟩
theorem newC_in (host sndr : L8) (tg body : List L8) (h1 : host.length ≤ 140737488351232) (h2 : sndr.length ≤ 140737488351232) (h3 : ∀ t ∈ tg, t.length ≤ 140737488351232) (h4 : tg.length ≤ 140737488351232) : (newC host sndr tg body).In 0 := by
  rw [newC_eq]
  split
  · rename_i hh
    exact ⟨⟨h1, h2, h3, h4⟩, Nat.le_refl _, fun _ => ⟨⟨Nat.zero_le _, fun _ => rfl, (fun e => by cases e), by show 1 ≤ tg.length; omega⟩, Nat.le_refl _, Nat.le_refl _⟩⟩
  · exact ⟨⟨h1, h2, h3, h4⟩, Nat.le_refl _, fun e => by cases e⟩
end Go.Abs.F
/- Layer 7: SendPlays: whatever the next hop says, the program and the document say the same. -/
namespace Go.Abs.F
open Go Go.Abs
set_option maxRecDepth 10000
set_option maxHeartbeats 20000000
set_option linter.unusedSimpArgs false
set_option linter.unusedVariables false
variable {w0 : World}
def totL (l : List L8) : Nat := (l.map List.length).sum
theorem totL_take {l : List L8} {i : Nat} {x : L8} (hx : l[i]? = some x) : totL (l.take (i + 1)) = totL (l.take i) + x.length := by
  unfold totL
  rw [List.take_add_one, hx]
  simp
theorem totL_mono (l : List L8) (i : Nat) : totL (l.take i) ≤ totL l := by
  unfold totL
  induction l generalizing i with
  | nil => simp
  | cons a l ih =>
    cases i with
    | zero => simp
    | succ i =>
      have := ih i
      simp only [List.take_succ_cons, List.map_cons, List.sum_cons]
      omega
/-- Both sessions, and where they stand. -/
structure PS (x : CK) (y : RK) (body : List L8) (s : CS) (n : Nat) (tl : Nat) (hh : AH) : Prop where
  k : ∃ tt tb tt2 to tl tr tw ts, ClO hh x s tt to tl tr ∧ RcL hh y s body tt2 tb tw ts ∧ Toks hh [to, tl, tr, tw, ts]
  d : ∀ i ∈ x.ids, ¬ i ∈ y.ids
  i : s.In n
  t : s.tg.length = tl
theorem RcL.fr {h h' : AH} {y : RK} {s : CS} {body : List L8} {tt tb tw ts : Tok} (H : RcL h y s body tt tb tw ts) {I : List Nat} (e : Fr I h h') (hd : ∀ i ∈ I, ¬ i ∈ y.ids) : RcL h' y s body tt tb tw ts := by
  obtain ⟨w, c, k, h1, h2⟩ := H.k
  exact ⟨⟨w, c, k, h1.fr e hd, h2⟩⟩
theorem rllost_call (y : RK) (s : CS) (body : List L8) (tt tb tw ts : Tok) (R : List Tok) (h : AH) (H : RcL h y s body tt tb tw ts) (hT : Toks h (ts :: R)) (hz : s.Sz) :
    Call P w0 ref01_Client_Lost [.ptr y.id 0] h (fun v h' => ∃ ts', RcL h' y s.lost body tt tb tw ts' ∧ Toks h' (ts' :: R) ∧ Fr y.ids h h') := by
  obtain ⟨w, c, k, h1, h2⟩ := H.k
  refine (rclost_call y s body tt tb tw ts w c k R h h1 hT hz).mono fun v h' hp => ?_
  obtain ⟨ts', G, T, F⟩ := hp
  exact ⟨ts', ⟨⟨w, c, k, G, fun e => by rw [lost_over] at e; cases e⟩⟩, T, F⟩
theorem feed_tg (s : CS) (b : L8) {n : Nat} (h : s.In n) : (s.feed b).tg = s.tg := by
  rcases Bool.eq_false_or_eq_true s.over with ho | ho
  · unfold CS.feed; rw [if_pos ho]
  · exact (feed_fk s b ho (h.ok ho).1).tg
theorem lost_tg (s : CS) : s.lost.tg = s.tg := by unfold CS.lost; split <;> rfl
/-- Bytes come to both. -/
theorem both_feed (hM : MaxLen w0) (x : CK) (y : RK) (body : List L8) (s : CS) (n tl : Nat) (hh : AH) (b : L8) (H : PS x y body s n tl hh) (hn : n + b.length ≤ 200000) :
    Call P w0 send_Client_Feed [.ptr x.id 0, .list 1 (brows b) .no] hh (fun v h1 => Call P w0 ref01_Client_Feed [.ptr y.id 0, .list 1 (brows b) .no] h1 fun v h2 => PS x y body (s.feed b) (n + b.length) tl h2) := by
  obtain ⟨tt, tb, tt2, to, tl0, tr, tw, ts, C, D, T⟩ := H.k
  refine (cfeed_call hM x s tt to tl0 tr [tw, ts] b .no hh C T H.i.sz (fun e => (H.i.ok e).1) (fun e => by have := (H.i.ok e).2.2; omega) (fun e => by have := (H.i.ok e).2.1; omega)).mono fun v h1 hp => ?_
  obtain ⟨to1, tl1, tr1, C1, T1, F1⟩ := hp
  have D1 := D.fr F1 H.d
  have T1' : Toks h1 (tw :: ts :: [to1, tl1, tr1]) := T1.perm (List.perm_append_comm (l₁ := [to1, tl1, tr1]) (l₂ := [tw, ts]))
  refine (rcfeed_call y s body tt2 tb tw ts [to1, tl1, tr1] b .no h1 D1 T1' H.i.sz (fun e => (H.i.ok e).1) (fun e => by have := (H.i.ok e).2.2; omega) (fun e => by have := (H.i.ok e).2.1; omega)).mono fun v h2 hp => ?_
  obtain ⟨tw2, ts2, D2, T2, F2⟩ := hp
  exact ⟨⟨tt, tb, tt2, to1, tl1, tr1, tw2, ts2, C1.fr F2 H.d, D2, T2.perm (List.perm_append_comm (l₁ := [tw2, ts2]) (l₂ := [to1, tl1, tr1]))⟩, H.d, H.i.feed b, by rw [feed_tg s b H.i]; exact H.t⟩
theorem both_lost (x : CK) (y : RK) (body : List L8) (s : CS) (n tl : Nat) (hh : AH) (H : PS x y body s n tl hh) :
    Call P w0 send_Client_Lost [.ptr x.id 0] hh (fun v h1 => Call P w0 ref01_Client_Lost [.ptr y.id 0] h1 fun v h2 => PS x y body s.lost n tl h2) := by
  obtain ⟨tt, tb, tt2, to, tl0, tr, tw, ts, C, D, T⟩ := H.k
  refine (clost_call x s tt to tl0 tr [tl0, tr, tw, ts] hh C T H.i.sz).mono fun v h1 hp => ?_
  obtain ⟨to1, C1, T1, F1⟩ := hp
  have D1 := D.fr F1 H.d
  have T1' : Toks h1 (ts :: [to1, tl0, tr, tw]) := T1.perm (List.perm_append_comm (l₁ := [to1, tl0, tr, tw]) (l₂ := [ts]))
  refine (rllost_call y s body tt2 tb tw ts [to1, tl0, tr, tw] h1 D1 T1' H.i.sz).mono fun v h2 hp => ?_
  obtain ⟨ts2, D2, T2, F2⟩ := hp
  exact ⟨⟨tt, tb, tt2, to1, tl0, tr, tw, ts2, C1.fr F2 H.d, D2, T2.perm (List.perm_append_comm (l₁ := [ts2]) (l₂ := [to1, tl0, tr, tw]))⟩, H.d, H.i.lost, by rw [lost_tg]; exact H.t⟩
/-- The two sessions, the program's ahead of the document's by what it has said. -/
structure PD (x : CK) (y : RK) (body : List L8) (s s' : CS) (hh : AH) : Prop where
  k : ∃ tt tb tt2 to tl tr tw ts, ClO hh x s tt to tl tr ∧ RcL hh y s' body tt2 tb tw ts ∧ Toks hh [to, tl, tr, tw, ts]
theorem pd_some (x : CK) (y : RK) (body : List L8) (s s' : CS) (t : L8) (o : List L8) (hh : AH) (H : PD x y body s s' hh) (hd : ∀ i ∈ x.ids, ¬ i ∈ y.ids) (ho : s.out = t :: o) : Call P w0 send_Client_Next [.ptr x.id 0] hh (fun v h' => v = .tup [.v (.string (bs t)), .v (.bool true)] ∧ PD x y body s.pop s' h') := by
  obtain ⟨tt, tb, tt2, to, tl0, tr, tw, ts, C, D, T⟩ := H.k
  refine (cNext_some x s tt to tl0 tr t o hh C ho).mono fun v h1 hp => ?_
  obtain ⟨rfl, C1, T1, F1⟩ := hp
  exact ⟨rfl, ⟨tt, tb, tt2, to, tl0, tr, tw, ts, C1, D.fr F1 hd, T1 _ T⟩⟩
theorem pd_none (x : CK) (y : RK) (body : List L8) (s s' : CS) (hh : AH) (H : PD x y body s s' hh) (ho : s.out = []) : Call P w0 send_Client_Next [.ptr x.id 0] hh (fun v h' => v = .tup [.v (.string (bs [])), .v (.bool false)] ∧ h' = hh) := by
  obtain ⟨tt, tb, tt2, to, tl0, tr, tw, ts, C, D, T⟩ := H.k
  exact cNext_none x s tt to tl0 tr hh C ho
theorem pd_over (x : CK) (y : RK) (body : List L8) (s s' : CS) (hh : AH) (H : PD x y body s s' hh) : Call P w0 send_Client_Over [.ptr x.id 0] hh (fun v h' => v = .v (.bool s.over) ∧ h' = hh) := by
  obtain ⟨tt, tb, tt2, to, tl0, tr, tw, ts, C, D, T⟩ := H.k
  exact cover_call x s tt to tl0 tr hh C
theorem pd_codes (x : CK) (y : RK) (body : List L8) (s s' : CS) (hh : AH) (H : PD x y body s s' hh) (hl : s.tg.length ≤ 1000000000000) : Call P w0 send_Client_Codes [.ptr x.id 0] hh (fun v h' => v = .list 1 (nrow s.codes) .no ∧ h' = hh) := by
  obtain ⟨tt, tb, tt2, to, tl0, tr, tw, ts, C, D, T⟩ := H.k
  exact ccodes_call x s tt to tl0 tr hh C hl
theorem nrow_get (l : List Int) (i : Nat) : (nrow l)[i]? = (l[i]?).map fun n => [.v (.int .i64 n)] := by simp [nrow]
theorem newC_out (host sndr : L8) (tg body : List L8) : (newC host sndr tg body).out = [] := by rw [newC_eq]; split <;> rfl
theorem newC_tg (host sndr : L8) (tg body : List L8) : (newC host sndr tg body).tg = tg := by rw [newC_eq]; split <;> rfl
/-- Where the law's variables stand. -/
structure RegS (x : CK) (y : RK) (said : List L8) (lost : Int) (i : Nat) (σ : Fm) : Prop where
  g4 : σ 4 = .list 1 (lrows said) .no
  g5 : σ 5 = .v (.int .u8 lost)
  g16 : σ 16 = .ptr x.id 0
  g17 : σ 17 = .ptr y.id 0
  g18 : σ 18 = .v (.int .i64 (i : Nat))
theorem both_new (host sndr : L8) (tg body : List L8) (tt tb : Tok) (h : AH) (h1 : host.length ≤ 140737488351232) (h2 : sndr.length ≤ 140737488351232) (h3 : ∀ t ∈ tg, t.length ≤ 140737488351232) (h4 : tg.length ≤ 1000000) (h5 : body.length ≤ 140737488351232) (h6 : ∀ s ∈ body, s.length ≤ 140737488351232) :
    Call P w0 send_New [.v (.string (bs host)), .v (.string (bs sndr)), .list 1 (srows tg) tt, .list 1 (srows body) tb] h (fun v h1 => ∃ x : CK, v = .ptr x.id 0 ∧ Call P w0 ref01_NewClient [.v (.string (bs host)), .v (.string (bs sndr)), .list 1 (srows tg) tt, .list 1 (srows body) tb] h1 fun v h2 => ∃ y : RK, v = .ptr y.id 0 ∧ PS x y body (newC host sndr tg body) 0 tg.length h2) := by
  refine (cnew_call host sndr tg body tt tb [] h (.nil h) h4 h5 h6).mono fun v h1' hp => ?_
  obtain ⟨x, rfl, N1⟩ := hp
  obtain ⟨tt1, to, tl, tr, C, T⟩ := N1.o
  refine ⟨x, rfl, (rcnew_call host sndr tg body tt tb [to, tl, tr] h1' T h4 h5 h6).mono fun v h2' hp => ?_⟩
  obtain ⟨y, rfl, N2⟩ := hp
  obtain ⟨tw, ts, D, T2⟩ := N2.o
  refine ⟨y, rfl, ⟨⟨tt1, tb, tt, to, tl, tr, tw, ts, C.fr N2.e (by simp), D, T2.perm (List.perm_append_comm (l₁ := [tw, ts]) (l₂ := [to, tl, tr]))⟩, fun i hi hj => ?_, newC_in host sndr tg body h1 h2 h3 (by omega), by rw [newC_tg]⟩⟩
  have := N2.f i hj
  have := C.lt
  simp [CK.ids] at hi
  omega
/-- A round behind what was said: what goes, whether it is over, the codes. -/
theorem sendPlays_main (W : World) (hM : MaxLen W) (host sndr : L8) (tg body said : List L8) (lost : Int) (h1 : host.length ≤ 140737488351232) (h2 : sndr.length ≤ 140737488351232) (h3 : ∀ t ∈ tg, t.length ≤ 140737488351232) (h4 : tg.length ≤ 140737488351232) (h5 : body.length ≤ 140737488351232) (h6 : ∀ s ∈ body, s.length ≤ 140737488351232) (h7 : said.length ≤ 140737488351232) (h8 : ∀ x ∈ said, x.length ≤ 140737488351232) (hl : 0 ≤ lost ∧ lost ≤ 255) :
    Call P W law07_SendPlays [.v (.string (bs host)), .v (.string (bs sndr)), .list 1 (srows tg) .no, .list 1 (srows body) .no, .list 1 (lrows said) .no, .v (.int .u8 lost)] AH.start fun v _ => v = .v (.bool true) := by
  have ha := fun h => answers07_call hM h
  have xl := srows_len
  have yl := lrows_len
  have xg := srows_get
  have yg := lrows_get
  have bl := brows_len
  refine Call.bodyF b_law07_SendPlays rfl rfl ?_
  unfold c_law07_SendPlays
  by_cases hg : said.length ≤ 60 ∧ tg.length ≤ 60 ∧ body.length ≤ 100 ∧ host.length ≤ 300
  · obtain ⟨g1, g2, g3, g4⟩ := hg
    repeat' (first
| ((with_reducible first | apply opsF.op rfl | apply dopsF.op rfl); case hs => first | exact tHT | exact tHS)
| (with_reducible first | apply opsF.nil | apply seqF.nn | apply vcF.seq | apply vcF.region | apply vcF.dregion | apply vcF.skip | apply vcF.block | apply vcF.exit | apply vcF.ret | apply vcF.loop | apply seqF.e | apply seqF.r | apply blkF.nn | apply blkF.e | apply blkF.r | apply blkF.o rfl | apply dopsF.nil | apply stabsF.nil | apply stabsF.cons | apply dopsF.cont)
| ((with_reducible first | apply opsF.call | apply dopsF.call); case hx => exact tAG)
| ((with_reducible first | apply opsF.want | apply dopsF.want | apply stabF.want); (case hg => exact tEV); case hb => exact tNB)
| ((with_reducible first | apply opsF.skip | apply dopsF.skip | apply stabF.skip); (case hg => exact tEV); case hb => exact tNB)
| (first | ((with_reducible first | apply opsF.case | apply dopsF.case); case hg => exact tEV) | ((with_reducible apply vcF.cond); case hx => exact tEV)) <;> ((intro hc; try simp only [Int.reduceLT, Int.reduceLE, Int.reduceEq, Int.reduceNe, Int.cast_ofNat_Int, Int.reduceNeg, reduceCtorEq, ne_eq, ge_iff_le, gt_iff_lt, beq_iff_eq, beq_eq_false_iff_ne, bne_iff_ne, bne_eq_false_iff_eq, nrm, *] at hc) <;> try (exfalso; omega))
| ((with_reducible first | apply opsF.und | apply dopsF.und); case hg => rfl)
| ((with_reducible apply stabF.und); rfl)
| ((with_reducible apply stabF.op); (case hs => first | exact tHT | exact tHS); case hv => exact tSV)
| ((with_reducible first | apply retF.r | apply retF.nn); case hv => exact tRS))
    refine LpF.ind rfl (fun i : Nat => body.length - i) (fun i σ hh => ∃ n : Nat, hh = AH.start ∧ (n : Int) ≤ (i : Int) * 140737488351232 ∧ σ 0 = .v (.string (bs host)) ∧ σ 1 = .v (.string (bs sndr)) ∧ σ 2 = .list 1 (srows tg) .no ∧ σ 3 = .list 1 (srows body) .no ∧ σ 4 = .list 1 (lrows said) .no ∧ σ 5 = .v (.int .u8 lost) ∧ σ 13 = .v (.int .i64 (n : Nat)) ∧ σ 14 = .v (.int .i64 (i : Nat)) ∧ i ≤ body.length) ?_ (i := 0) ⟨0, rfl, by simp, rfl, rfl, rfl, rfl, rfl, rfl, rfl, rfl, Nat.zero_le _⟩
    rintro i σ hh ⟨n, rfl, hn, q0, q1, q2, q3, q4, q5, q13, q14, hi⟩
    rcases Nat.lt_or_ge i body.length with hlt | hge
    · obtain ⟨b, hb⟩ : ∃ b, body[i]? = some b := ⟨_, List.getElem?_eq_getElem hlt⟩
      have hbl := h6 b (List.mem_of_getElem? hb)
      repeat' (first
| ((with_reducible first | apply opsF.op rfl | apply dopsF.op rfl); case hs => first | exact tHT | exact tHS)
| (with_reducible first | apply opsF.nil | apply seqF.nn | apply vcF.seq | apply vcF.region | apply vcF.dregion | apply vcF.skip | apply vcF.block | apply vcF.exit | apply vcF.ret | apply vcF.loop | apply seqF.e | apply seqF.r | apply blkF.nn | apply blkF.e | apply blkF.r | apply blkF.o rfl | apply dopsF.nil | apply stabsF.nil | apply stabsF.cons | apply dopsF.cont)
| ((with_reducible first | apply opsF.call | apply dopsF.call); case hx => exact tAG)
| ((with_reducible first | apply opsF.want | apply dopsF.want | apply stabF.want); (case hg => exact tEV); case hb => exact tNB)
| ((with_reducible first | apply opsF.skip | apply dopsF.skip | apply stabF.skip); (case hg => exact tEV); case hb => exact tNB)
| (first | ((with_reducible first | apply opsF.case | apply dopsF.case); case hg => exact tEV) | ((with_reducible apply vcF.cond); case hx => exact tEV)) <;> ((intro hc; try simp only [Int.reduceLT, Int.reduceLE, Int.reduceEq, Int.reduceNe, Int.cast_ofNat_Int, Int.reduceNeg, reduceCtorEq, ne_eq, ge_iff_le, gt_iff_lt, beq_iff_eq, beq_eq_false_iff_ne, bne_iff_ne, bne_eq_false_iff_eq, nrm, *] at hc) <;> try (exfalso; omega))
| ((with_reducible first | apply opsF.und | apply dopsF.und); case hg => rfl)
| ((with_reducible apply stabF.und); rfl)
| ((with_reducible apply stabF.op); (case hs => first | exact tHT | exact tHS); case hv => exact tSV)
| ((with_reducible first | apply retF.r | apply retF.nn); case hv => exact tRS))
      all_goals exact ⟨i + 1, by omega, n + b.length, rfl, by omega, q0, q1, q2, q3, q4, q5, by first | rfl | (congr 2; omega), rfl, by omega⟩
    · obtain rfl : i = body.length := by omega
      repeat' (first
| ((with_reducible first | apply opsF.op rfl | apply dopsF.op rfl); case hs => first | exact tHT | exact tHS)
| (with_reducible first | apply opsF.nil | apply seqF.nn | apply vcF.seq | apply vcF.region | apply vcF.dregion | apply vcF.skip | apply vcF.block | apply vcF.exit | apply vcF.ret | apply vcF.loop | apply seqF.e | apply seqF.r | apply blkF.nn | apply blkF.e | apply blkF.r | apply blkF.o rfl | apply dopsF.nil | apply stabsF.nil | apply stabsF.cons | apply dopsF.cont)
| ((with_reducible first | apply opsF.call | apply dopsF.call); case hx => exact tAG)
| ((with_reducible first | apply opsF.want | apply dopsF.want | apply stabF.want); (case hg => exact tEV); case hb => exact tNB)
| ((with_reducible first | apply opsF.skip | apply dopsF.skip | apply stabF.skip); (case hg => exact tEV); case hb => exact tNB)
| (first | ((with_reducible first | apply opsF.case | apply dopsF.case); case hg => exact tEV) | ((with_reducible apply vcF.cond); case hx => exact tEV)) <;> ((intro hc; try simp only [Int.reduceLT, Int.reduceLE, Int.reduceEq, Int.reduceNe, Int.cast_ofNat_Int, Int.reduceNeg, reduceCtorEq, ne_eq, ge_iff_le, gt_iff_lt, beq_iff_eq, beq_eq_false_iff_ne, bne_iff_ne, bne_eq_false_iff_eq, nrm, *] at hc) <;> try (exfalso; omega))
| ((with_reducible first | apply opsF.und | apply dopsF.und); case hg => rfl)
| ((with_reducible apply stabF.und); rfl)
| ((with_reducible apply stabF.op); (case hs => first | exact tHT | exact tHS); case hv => exact tSV)
| ((with_reducible first | apply retF.r | apply retF.nn); case hv => exact tRS))
      have z0 : totL (said.take 0) ≤ n := by simp [totL]
      have z1 : (n : Int) ≤ (100 + ((0 : Nat) : Int)) * 140737488351232 := by omega
      refine LpF.ind rfl (fun i : Nat => said.length - i) (fun i σ hh => ∃ n : Nat, hh = AH.start ∧ totL (said.take i) ≤ n ∧ (n : Int) ≤ (100 + (i : Int)) * 140737488351232 ∧ σ 0 = .v (.string (bs host)) ∧ σ 1 = .v (.string (bs sndr)) ∧ σ 2 = .list 1 (srows tg) .no ∧ σ 3 = .list 1 (srows body) .no ∧ σ 4 = .list 1 (lrows said) .no ∧ σ 5 = .v (.int .u8 lost) ∧ σ 13 = .v (.int .i64 (n : Nat)) ∧ σ 15 = .v (.int .i64 (i : Nat)) ∧ i ≤ said.length) ?_ (i := 0) ⟨n, rfl, z0, z1, q0, q1, q2, q3, q4, q5, q13, rfl, Nat.zero_le _⟩
      clear hn q0 q1 q2 q3 q4 q5 q13 q14
      rintro i σ hh ⟨n, rfl, hn0, hn, q0, q1, q2, q3, q4, q5, q13, q15, hi⟩
      rcases Nat.lt_or_ge i said.length with hlt | hge
      · obtain ⟨b, hb⟩ : ∃ b, said[i]? = some b := ⟨_, List.getElem?_eq_getElem hlt⟩
        have hbl := h8 b (List.mem_of_getElem? hb)
        have htt := totL_take hb
        repeat' (first
| ((with_reducible first | apply opsF.op rfl | apply dopsF.op rfl); case hs => first | exact tHT | exact tHS)
| (with_reducible first | apply opsF.nil | apply seqF.nn | apply vcF.seq | apply vcF.region | apply vcF.dregion | apply vcF.skip | apply vcF.block | apply vcF.exit | apply vcF.ret | apply vcF.loop | apply seqF.e | apply seqF.r | apply blkF.nn | apply blkF.e | apply blkF.r | apply blkF.o rfl | apply dopsF.nil | apply stabsF.nil | apply stabsF.cons | apply dopsF.cont)
| ((with_reducible first | apply opsF.call | apply dopsF.call); case hx => exact tAG)
| ((with_reducible first | apply opsF.want | apply dopsF.want | apply stabF.want); (case hg => exact tEV); case hb => exact tNB)
| ((with_reducible first | apply opsF.skip | apply dopsF.skip | apply stabF.skip); (case hg => exact tEV); case hb => exact tNB)
| (first | ((with_reducible first | apply opsF.case | apply dopsF.case); case hg => exact tEV) | ((with_reducible apply vcF.cond); case hx => exact tEV)) <;> ((intro hc; try simp only [Int.reduceLT, Int.reduceLE, Int.reduceEq, Int.reduceNe, Int.cast_ofNat_Int, Int.reduceNeg, reduceCtorEq, ne_eq, ge_iff_le, gt_iff_lt, beq_iff_eq, beq_eq_false_iff_ne, bne_iff_ne, bne_eq_false_iff_eq, nrm, *] at hc) <;> try (exfalso; omega))
| ((with_reducible first | apply opsF.und | apply dopsF.und); case hg => rfl)
| ((with_reducible apply stabF.und); rfl)
| ((with_reducible apply stabF.op); (case hs => first | exact tHT | exact tHS); case hv => exact tSV)
| ((with_reducible first | apply retF.r | apply retF.nn); case hv => exact tRS))
        all_goals exact ⟨i + 1, by omega, n + b.length, rfl, by omega, by omega, q0, q1, q2, q3, q4, q5, by first | rfl | (congr 2; omega), rfl, by omega⟩
      · obtain rfl : i = said.length := by omega
        rw [List.take_length] at hn0
        by_cases hbig : 100000 < n
        · clear hn0
          repeat' (first
| ((with_reducible first | apply opsF.op rfl | apply dopsF.op rfl); case hs => first | exact tHT | exact tHS)
| (with_reducible first | apply opsF.nil | apply seqF.nn | apply vcF.seq | apply vcF.region | apply vcF.dregion | apply vcF.skip | apply vcF.block | apply vcF.exit | apply vcF.ret | apply vcF.loop | apply seqF.e | apply seqF.r | apply blkF.nn | apply blkF.e | apply blkF.r | apply blkF.o rfl | apply dopsF.nil | apply stabsF.nil | apply stabsF.cons | apply dopsF.cont)
| ((with_reducible first | apply opsF.call | apply dopsF.call); case hx => exact tAG)
| ((with_reducible first | apply opsF.want | apply dopsF.want | apply stabF.want); (case hg => exact tEV); case hb => exact tNB)
| ((with_reducible first | apply opsF.skip | apply dopsF.skip | apply stabF.skip); (case hg => exact tEV); case hb => exact tNB)
| (first | ((with_reducible first | apply opsF.case | apply dopsF.case); case hg => exact tEV) | ((with_reducible apply vcF.cond); case hx => exact tEV)) <;> ((intro hc; try simp only [Int.reduceLT, Int.reduceLE, Int.reduceEq, Int.reduceNe, Int.cast_ofNat_Int, Int.reduceNeg, reduceCtorEq, ne_eq, ge_iff_le, gt_iff_lt, beq_iff_eq, beq_eq_false_iff_ne, bne_iff_ne, bne_eq_false_iff_eq, nrm, *] at hc) <;> try (exfalso; omega))
| ((with_reducible first | apply opsF.und | apply dopsF.und); case hg => rfl)
| ((with_reducible apply stabF.und); rfl)
| ((with_reducible apply stabF.op); (case hs => first | exact tHT | exact tHS); case hv => exact tSV)
| ((with_reducible first | apply retF.r | apply retF.nn); case hv => exact tRS)
| ((refine Call.use (ha _) ?_)))
          all_goals rfl
        · have htot : totL said ≤ 100000 := by omega
          have hnew := both_new (w0 := W) host sndr tg body .no .no AH.start h1 h2 h3 (by omega) h5 h6
          clear hn hn0
          repeat' (first
| ((with_reducible first | apply opsF.op rfl | apply dopsF.op rfl); case hs => first | exact tHT | exact tHS)
| (with_reducible first | apply opsF.nil | apply seqF.nn | apply vcF.seq | apply vcF.region | apply vcF.dregion | apply vcF.skip | apply vcF.block | apply vcF.exit | apply vcF.ret | apply vcF.loop | apply seqF.e | apply seqF.r | apply blkF.nn | apply blkF.e | apply blkF.r | apply blkF.o rfl | apply dopsF.nil | apply stabsF.nil | apply stabsF.cons | apply dopsF.cont)
| ((with_reducible first | apply opsF.call | apply dopsF.call); case hx => exact tAG)
| ((with_reducible first | apply opsF.want | apply dopsF.want | apply stabF.want); (case hg => exact tEV); case hb => exact tNB)
| ((with_reducible first | apply opsF.skip | apply dopsF.skip | apply stabF.skip); (case hg => exact tEV); case hb => exact tNB)
| (first | ((with_reducible first | apply opsF.case | apply dopsF.case); case hg => exact tEV) | ((with_reducible apply vcF.cond); case hx => exact tEV)) <;> ((intro hc; try simp only [Int.reduceLT, Int.reduceLE, Int.reduceEq, Int.reduceNe, Int.cast_ofNat_Int, Int.reduceNeg, reduceCtorEq, ne_eq, ge_iff_le, gt_iff_lt, beq_iff_eq, beq_eq_false_iff_ne, bne_iff_ne, bne_eq_false_iff_eq, nrm, *] at hc) <;> try (exfalso; omega))
| ((with_reducible first | apply opsF.und | apply dopsF.und); case hg => rfl)
| ((with_reducible apply stabF.und); rfl)
| ((with_reducible apply stabF.op); (case hs => first | exact tHT | exact tHS); case hv => exact tSV)
| ((with_reducible first | apply retF.r | apply retF.nn); case hv => exact tRS)
| ((refine hnew.mono fun v h1' hp => ?_); obtain ⟨x, rfl, hp2⟩ := hp)
| ((refine hp2.mono fun v h2' hp => ?_); obtain ⟨y, rfl, PS0⟩ := hp))
          refine LpF.ind rfl (fun i : Nat => said.length + 1 - i) (fun i σ hh => ∃ s, PS x y body s (totL (said.take i)) tg.length hh ∧ s.out = [] ∧ RegS x y said lost i σ ∧ i ≤ said.length + 1) ?_ (i := 0) ⟨_, PS0, newC_out _ _ _ _, ⟨q4, q5, rfl, rfl, rfl⟩, Nat.zero_le _⟩
          clear q0 q1 q2 q3 q4 q5 q13 q15 hnew hp2 PS0
          rintro i σ hh ⟨s, S, hout, ⟨q4, q5, q16, q17, q18⟩, hi⟩
          rcases Nat.lt_or_ge said.length i with hgt | hle
          · repeat' (first
| ((with_reducible first | apply opsF.op rfl | apply dopsF.op rfl); case hs => first | exact tHT | exact tHS)
| (with_reducible first | apply opsF.nil | apply seqF.nn | apply vcF.seq | apply vcF.region | apply vcF.dregion | apply vcF.skip | apply vcF.block | apply vcF.exit | apply vcF.ret | apply vcF.loop | apply seqF.e | apply seqF.r | apply blkF.nn | apply blkF.e | apply blkF.r | apply blkF.o rfl | apply dopsF.nil | apply stabsF.nil | apply stabsF.cons | apply dopsF.cont)
| ((with_reducible first | apply opsF.call | apply dopsF.call); case hx => exact tAG)
| ((with_reducible first | apply opsF.want | apply dopsF.want | apply stabF.want); (case hg => exact tEV); case hb => exact tNB)
| ((with_reducible first | apply opsF.skip | apply dopsF.skip | apply stabF.skip); (case hg => exact tEV); case hb => exact tNB)
| (first | ((with_reducible first | apply opsF.case | apply dopsF.case); case hg => exact tEV) | ((with_reducible apply vcF.cond); case hx => exact tEV)) <;> ((intro hc; try simp only [Int.reduceLT, Int.reduceLE, Int.reduceEq, Int.reduceNe, Int.cast_ofNat_Int, Int.reduceNeg, reduceCtorEq, ne_eq, ge_iff_le, gt_iff_lt, beq_iff_eq, beq_eq_false_iff_ne, bne_iff_ne, bne_eq_false_iff_eq, nrm, *] at hc) <;> try (exfalso; omega))
| ((with_reducible first | apply opsF.und | apply dopsF.und); case hg => rfl)
| ((with_reducible apply stabF.und); rfl)
| ((with_reducible apply stabF.op); (case hs => first | exact tHT | exact tHS); case hv => exact tSV)
| ((with_reducible first | apply retF.r | apply retF.nn); case hv => exact tRS)
| ((refine Call.use (ha _) ?_)))
            all_goals rfl
          · have hmn := totL_mono said i
            have hgr : (i : Int) < (said.length : Nat) → (lrows said)[((i : Nat) : Int).toNat]? = some [.list 1 (brows (said.getD i [])) .no] := fun hlt => by
              rw [Int.toNat_natCast, yg, List.getElem?_eq_getElem (by omega)]
              simp [List.getD, List.getElem?_eq_getElem (show i < said.length by omega)]
            have hbf : (i : Int) < (said.length : Nat) → Call P W send_Client_Feed [.ptr x.id 0, .list 1 (brows (said.getD i [])) .no] hh (fun v h1 => Call P W ref01_Client_Feed [.ptr y.id 0, .list 1 (brows (said.getD i [])) .no] h1 fun v h2 => PS x y body (s.feed (said.getD i [])) (totL (said.take (i + 1))) tg.length h2) := fun hlt => by
              obtain ⟨b, hb⟩ : ∃ b, said[i]? = some b := ⟨_, List.getElem?_eq_getElem (by omega)⟩
              have e : said.getD i [] = b := by simp [List.getD, hb]
              rw [e, totL_take hb]
              exact both_feed hM x y body s _ _ hh b S (by rw [← totL_take hb]; have := totL_mono said (i + 1); omega)
            have hsm : ¬ (i : Int) < (said.length : Nat) → totL (said.take (i + 1)) = totL (said.take i) := fun hge => by rw [List.take_of_length_le (by omega), List.take_of_length_le (by omega)]
            repeat' (first
| (refine vcF.cut (a := .seq (.region _) (.cond (.tmp 93) _ .skip)) (fun σ h' => ∃ s, PS x y body s (totL (said.take (i + 1))) tg.length h' ∧ RegS x y said lost i σ) ?_ ?_)
| ((with_reducible apply opsF.op rfl); (case hs => exact is_iaL tEV tEV (by omega) (hgr (by omega))))
| ((with_reducible first | apply opsF.op rfl | apply dopsF.op rfl); case hs => first | exact tHT | exact tHS)
| (with_reducible first | apply opsF.nil | apply seqF.nn | apply vcF.seq | apply vcF.region | apply vcF.dregion | apply vcF.skip | apply vcF.block | apply vcF.exit | apply vcF.ret | apply vcF.loop | apply seqF.e | apply seqF.r | apply blkF.nn | apply blkF.e | apply blkF.r | apply blkF.o rfl | apply dopsF.nil | apply stabsF.nil | apply stabsF.cons | apply dopsF.cont)
| ((with_reducible first | apply opsF.call | apply dopsF.call); case hx => exact tAG)
| ((with_reducible first | apply opsF.want | apply dopsF.want | apply stabF.want); (case hg => exact tEV); case hb => exact tNB)
| ((with_reducible first | apply opsF.skip | apply dopsF.skip | apply stabF.skip); (case hg => exact tEV); case hb => exact tNB)
| (first | ((with_reducible first | apply opsF.case | apply dopsF.case); case hg => exact tEV) | ((with_reducible apply vcF.cond); case hx => exact tEV)) <;> ((intro hc; try simp only [Int.reduceLT, Int.reduceLE, Int.reduceEq, Int.reduceNe, Int.cast_ofNat_Int, Int.reduceNeg, reduceCtorEq, ne_eq, ge_iff_le, gt_iff_lt, beq_iff_eq, beq_eq_false_iff_ne, bne_iff_ne, bne_eq_false_iff_eq, nrm, *] at hc) <;> try (exfalso; omega))
| ((with_reducible first | apply opsF.und | apply dopsF.und); case hg => rfl)
| ((with_reducible apply stabF.und); rfl)
| ((with_reducible apply stabF.op); (case hs => first | exact tHT | exact tHS); case hv => exact tSV)
| ((with_reducible first | apply retF.r | apply retF.nn); case hv => exact tRS)
| ((refine (hbf (by omega)).mono fun v h2' hp1 => ?_))
| ((refine hp1.mono fun v h3' hp2 => ?_))
| fail)
            rotate_right
            · clear hgr hbf hsm
              rintro σ h1' ⟨s, S, ⟨q4, q5, q16, q17, q18⟩⟩
              have hbl := both_lost (w0 := W) x y body s _ _ h1' S
              repeat' (first
| (refine vcF.cut (a := .seq (.region _) (.cond (.tmp 109) _ .skip)) (fun σ h' => ∃ s, PS x y body s (totL (said.take (i + 1))) tg.length h' ∧ RegS x y said lost i σ) ?_ ?_)
| ((with_reducible first | apply opsF.op rfl | apply dopsF.op rfl); case hs => first | exact tHT | exact tHS)
| (with_reducible first | apply opsF.nil | apply seqF.nn | apply vcF.seq | apply vcF.region | apply vcF.dregion | apply vcF.skip | apply vcF.block | apply vcF.exit | apply vcF.ret | apply vcF.loop | apply seqF.e | apply seqF.r | apply blkF.nn | apply blkF.e | apply blkF.r | apply blkF.o rfl | apply dopsF.nil | apply stabsF.nil | apply stabsF.cons | apply dopsF.cont)
| ((with_reducible first | apply opsF.call | apply dopsF.call); case hx => exact tAG)
| ((with_reducible first | apply opsF.want | apply dopsF.want | apply stabF.want); (case hg => exact tEV); case hb => exact tNB)
| ((with_reducible first | apply opsF.skip | apply dopsF.skip | apply stabF.skip); (case hg => exact tEV); case hb => exact tNB)
| (first | ((with_reducible first | apply opsF.case | apply dopsF.case); case hg => exact tEV) | ((with_reducible apply vcF.cond); case hx => exact tEV)) <;> ((intro hc; try simp only [Int.reduceLT, Int.reduceLE, Int.reduceEq, Int.reduceNe, Int.cast_ofNat_Int, Int.reduceNeg, reduceCtorEq, ne_eq, ge_iff_le, gt_iff_lt, beq_iff_eq, beq_eq_false_iff_ne, bne_iff_ne, bne_eq_false_iff_eq, nrm, *] at hc) <;> try (exfalso; omega))
| ((with_reducible first | apply opsF.und | apply dopsF.und); case hg => rfl)
| ((with_reducible apply stabF.und); rfl)
| ((with_reducible apply stabF.op); (case hs => first | exact tHT | exact tHS); case hv => exact tSV)
| ((with_reducible first | apply retF.r | apply retF.nn); case hv => exact tRS)
| ((refine hbl.mono fun v h2' hp1 => ?_))
| ((refine hp1.mono fun v h3' hp2 => ?_))
| fail)
              rotate_right
              · clear hbl
                rintro σ h2' ⟨s, S, ⟨q4, q5, q16, q17, q18⟩⟩
                have P0 : PD x y body ({ s with out := s.out.drop 0 } : CS) s h2' := ⟨S.k⟩
                have hd := S.d
                have hin := S.i
                have htg := S.t
                have hol : s.out.length ≤ 200000 := by have := hin.out; have := totL_mono said (i + 1); omega
                clear S
                repeat' (first
| ((with_reducible first | apply opsF.op rfl | apply dopsF.op rfl); case hs => first | exact tHT | exact tHS)
| (with_reducible first | apply opsF.nil | apply seqF.nn | apply vcF.seq | apply vcF.region | apply vcF.dregion | apply vcF.skip | apply vcF.block | apply vcF.exit | apply vcF.ret | apply vcF.loop | apply seqF.e | apply seqF.r | apply blkF.nn | apply blkF.e | apply blkF.r | apply blkF.o rfl | apply dopsF.nil | apply stabsF.nil | apply stabsF.cons | apply dopsF.cont)
| ((with_reducible first | apply opsF.call | apply dopsF.call); case hx => exact tAG)
| ((with_reducible first | apply opsF.want | apply dopsF.want | apply stabF.want); (case hg => exact tEV); case hb => exact tNB)
| ((with_reducible first | apply opsF.skip | apply dopsF.skip | apply stabF.skip); (case hg => exact tEV); case hb => exact tNB)
| (first | ((with_reducible first | apply opsF.case | apply dopsF.case); case hg => exact tEV) | ((with_reducible apply vcF.cond); case hx => exact tEV)) <;> ((intro hc; try simp only [Int.reduceLT, Int.reduceLE, Int.reduceEq, Int.reduceNe, Int.cast_ofNat_Int, Int.reduceNeg, reduceCtorEq, ne_eq, ge_iff_le, gt_iff_lt, beq_iff_eq, beq_eq_false_iff_ne, bne_iff_ne, bne_eq_false_iff_eq, nrm, *] at hc) <;> try (exfalso; omega))
| ((with_reducible first | apply opsF.und | apply dopsF.und); case hg => rfl)
| ((with_reducible apply stabF.und); rfl)
| ((with_reducible apply stabF.op); (case hs => first | exact tHT | exact tHS); case hv => exact tSV)
| ((with_reducible first | apply retF.r | apply retF.nn); case hv => exact tRS))
                refine LpF.ind rfl (fun k : Nat => s.out.length - k) (fun k σ hh => PD x y body ({ s with out := s.out.drop k } : CS) s hh ∧ RegS x y said lost i σ ∧ σ 19 = .v (.int .i64 (k : Nat)) ∧ k ≤ s.out.length) ?_ (i := 0) ⟨P0, ⟨q4, q5, q16, q17, q18⟩, rfl, Nat.zero_le _⟩
                clear q4 q5 q16 q17 q18 P0
                rintro k σ hh ⟨PDk, ⟨q4, q5, q16, q17, q18⟩, q19, hk⟩
                have xs := srows_len s.out
                obtain ⟨tt, tb, tt2, to, tl0, tr, tw, ts, C, D, T⟩ := PDk.k
                obtain ⟨w, c, k', G, GK⟩ := D.k
                have gob := G.o
                unfold rcells at gob
                rcases Nat.lt_or_ge k s.out.length with hlt | hge
                · obtain ⟨t, ht⟩ : ∃ t, s.out[k]? = some t := ⟨_, List.getElem?_eq_getElem hlt⟩
                  have hps := pd_some (w0 := W) x y body _ s t (s.out.drop (k + 1)) hh PDk hd (drop_step ht)
                  have e : ({ s with out := s.out.drop k } : CS).pop = { s with out := s.out.drop (k + 1) } := by unfold CS.pop; dsimp only; rw [List.tail_drop]
                  rw [e] at hps
                  have hgt : (srows s.out)[k]? = some [.v (.string (bs t))] := by rw [xg, ht]; rfl
                  clear PDk e C D T G GK
                  repeat' (first
| ((with_reducible first | apply opsF.op rfl | apply dopsF.op rfl); case hs => first | exact tHT | exact tHS)
| (with_reducible first | apply opsF.nil | apply seqF.nn | apply vcF.seq | apply vcF.region | apply vcF.dregion | apply vcF.skip | apply vcF.block | apply vcF.exit | apply vcF.ret | apply vcF.loop | apply seqF.e | apply seqF.r | apply blkF.nn | apply blkF.e | apply blkF.r | apply blkF.o rfl | apply dopsF.nil | apply stabsF.nil | apply stabsF.cons | apply dopsF.cont)
| ((with_reducible first | apply opsF.call | apply dopsF.call); case hx => exact tAG)
| ((with_reducible first | apply opsF.want | apply dopsF.want | apply stabF.want); (case hg => exact tEV); case hb => exact tNB)
| ((with_reducible first | apply opsF.skip | apply dopsF.skip | apply stabF.skip); (case hg => exact tEV); case hb => exact tNB)
| (first | ((with_reducible first | apply opsF.case | apply dopsF.case); case hg => exact tEV) | ((with_reducible apply vcF.cond); case hx => exact tEV)) <;> ((intro hc; try simp only [Int.reduceLT, Int.reduceLE, Int.reduceEq, Int.reduceNe, Int.cast_ofNat_Int, Int.reduceNeg, reduceCtorEq, ne_eq, ge_iff_le, gt_iff_lt, beq_iff_eq, beq_eq_false_iff_ne, bne_iff_ne, bne_eq_false_iff_eq, nrm, *] at hc) <;> try (exfalso; omega))
| ((with_reducible first | apply opsF.und | apply dopsF.und); case hg => rfl)
| ((with_reducible apply stabF.und); rfl)
| ((with_reducible apply stabF.op); (case hs => first | exact tHT | exact tHS); case hv => exact tSV)
| ((with_reducible first | apply retF.r | apply retF.nn); case hv => exact tRS)
| ((refine hps.mono fun v h3' hp => ?_); obtain ⟨rfl, PD2⟩ := hp; obtain ⟨tt, tb, tt4, to, tl0, tr, tw, ts, C, D, T⟩ := PD2.k; obtain ⟨w3, c3, k3, G, GK⟩ := D.k; have gob3 := G.o; unfold rcells at gob3)
| fail)
                  all_goals exact ⟨k + 1, by omega, PD2, ⟨q4, q5, q16, q17, q18⟩, rfl, by omega⟩
                · have e : ({ s with out := s.out.drop k } : CS) = { s with out := [] } := by rw [List.drop_eq_nil_of_le hge]
                  rw [e] at C
                  have G6 := G.upd (h2 := hh) (s' := ({ s with out := [] } : CS)) (tw' := tw) (ts' := .full) (w' := w) (c' := c) (k' := k') rfl rfl rfl rfl
                  have T6 : Toks hh [to, tl0, tr, tw, .full] := by
                    have q1 : Toks hh (ts :: [to, tl0, tr, tw]) := T.perm (List.perm_append_comm (l₁ := [to, tl0, tr, tw]) (l₂ := [ts]))
                    exact q1.full1.perm (List.perm_append_comm (l₁ := [Tok.full]) (l₂ := [to, tl0, tr, tw]))
                  have PD6 : PD x y body ({ s with out := [] } : CS) ({ s with out := [] } : CS) (hh.set y.id (.cells (rcells y ({ s with out := [] } : CS) body tt2 tb tw .full w c k'))) :=
                    ⟨⟨tt, tb, tt2, to, tl0, tr, tw, .full, C.fr ((Fr.refl [y.id] hh).set (.inl (by simp)) _) (fun i hi hj => hd i hi (by simp at hj; simp [RK.ids, hj])), ⟨⟨w, c, k', G6, fun e => ⟨(GK e).w, (GK e).c, (GK e).k, (GK e).n, (GK e).b, (GK e).y⟩⟩⟩, T6.set⟩⟩
                  have gco := G6.c
                  have gln : s.codes.length = s.tg.length := G6.ln
                  have hin6 := hin.outs [] (Nat.zero_le _)
                  have hno := pd_none (w0 := W) x y body _ _ _ PD6 rfl
                  have hov := pd_over (w0 := W) x y body _ _ _ PD6
                  have hco := pd_codes (w0 := W) x y body _ _ _ PD6 (by show s.tg.length ≤ _; omega)
                  have nl := nrow_len s.codes
                  have il := icel_len s.codes
                  have hS6 : PS x y body ({ s with out := [] } : CS) (totL (said.take (i + 1))) tg.length (hh.set y.id (.cells (rcells y ({ s with out := [] } : CS) body tt2 tb tw .full w c k'))) := ⟨PD6.k, hd, hin6, htg⟩
                  have ho6 : ({ s with out := [] } : CS).out = [] := rfl
                  have hov6 : ({ s with out := [] } : CS).over = s.over := rfl
                  have hco6 : ({ s with out := [] } : CS).codes = s.codes := rfl
                  rw [hov6] at hov
                  rw [hco6] at hco gco
                  obtain ⟨s6, hs6⟩ : ∃ s6 : CS, s6 = { s with out := [] } := ⟨_, rfl⟩
                  have hrc : rcells y ({ s with out := [] } : CS) body tt2 tb tw .full w c k' = [.v (.string (bs s.host)), .v (.string (bs s.sndr)), .list 1 (srows s.tg) tt2, .list 1 (srows body) tb, .list 1 (brows w) tw, .v (.int .i64 c), .list 1 [] .full, .v (.int .i64 k'), .row y.cid 0 s.tg.length (some s.tg.length), .v (.bool s.over)] := rfl
                  rw [hrc] at hno hov hco gco hS6
                  rw [← hs6] at hS6 ho6
                  rw [htg] at hno hov hco gco hS6 gob gln
                  clear PDk PD6 hin6 T6 G6 C D T G GK hs6 e hrc hov6 hco6 htg
                  repeat' (first
| ((with_reducible first | apply opsF.op rfl | apply dopsF.op rfl); case hs => first | exact tHT | exact tHS)
| (with_reducible first | apply opsF.nil | apply seqF.nn | apply vcF.seq | apply vcF.region | apply vcF.dregion | apply vcF.skip | apply vcF.block | apply vcF.exit | apply vcF.ret | apply vcF.loop | apply seqF.e | apply seqF.r | apply blkF.nn | apply blkF.e | apply blkF.r | apply blkF.o rfl | apply dopsF.nil | apply stabsF.nil | apply stabsF.cons | apply dopsF.cont)
| ((with_reducible first | apply opsF.call | apply dopsF.call); case hx => exact tAG)
| ((with_reducible first | apply opsF.want | apply dopsF.want | apply stabF.want); (case hg => exact tEV); case hb => exact tNB)
| ((with_reducible first | apply opsF.skip | apply dopsF.skip | apply stabF.skip); (case hg => exact tEV); case hb => exact tNB)
| (first | ((with_reducible first | apply opsF.case | apply dopsF.case); case hg => exact tEV) | ((with_reducible apply vcF.cond); case hx => exact tEV)) <;> ((intro hc; try simp only [Int.reduceLT, Int.reduceLE, Int.reduceEq, Int.reduceNe, Int.cast_ofNat_Int, Int.reduceNeg, reduceCtorEq, ne_eq, ge_iff_le, gt_iff_lt, beq_iff_eq, beq_eq_false_iff_ne, bne_iff_ne, bne_eq_false_iff_eq, nrm, *] at hc) <;> try (exfalso; omega))
| ((with_reducible first | apply opsF.und | apply dopsF.und); case hg => rfl)
| ((with_reducible apply stabF.und); rfl)
| ((with_reducible apply stabF.op); (case hs => first | exact tHT | exact tHS); case hv => exact tSV)
| ((with_reducible first | apply retF.r | apply retF.nn); case hv => exact tRS)
| ((refine Call.use hno ?_))
| ((refine Call.use hov ?_))
| ((refine Call.use hco ?_))
| fail)
                  obtain ⟨h6, hh6⟩ : ∃ h6, h6 = hh.set y.id (.cells [.v (.string (bs s.host)), .v (.string (bs s.sndr)), .list 1 (srows s.tg) tt2, .list 1 (srows body) tb, .list 1 (brows w) tw, .v (.int .i64 c), .list 1 [] .full, .v (.int .i64 k'), .row y.cid 0 tg.length (some tg.length), .v (.bool s.over)]) := ⟨_, rfl⟩
                  have gob6 : h6.objs y.id = some (.cells [.v (.string (bs s.host)), .v (.string (bs s.sndr)), .list 1 (srows s.tg) tt2, .list 1 (srows body) tb, .list 1 (brows w) tw, .v (.int .i64 c), .list 1 [] .full, .v (.int .i64 k'), .row y.cid 0 tg.length (some tg.length), .v (.bool s.over)]) := by rw [hh6, set_at, if_pos rfl]
                  rw [← hh6] at gco hS6 ⊢
                  clear hno hov hco gob hh6
                  refine LpF.ind rfl (fun j : Nat => s.codes.length - j) (fun j σ h7 => h7 = h6 ∧ RegS x y said lost i σ ∧ σ 24 = .list 1 (nrow s.codes) .no ∧ σ 25 = .v (.int .i64 (j : Nat)) ∧ j ≤ s.codes.length) ?_ (i := 0) ⟨rfl, ⟨q4, q5, q16, q17, q18⟩, rfl, rfl, Nat.zero_le _⟩
                  clear q4 q5 q16 q17 q18 q19
                  rintro j σ h7 ⟨rfl, ⟨q4, q5, q16, q17, q18⟩, q24, q25, hj⟩
                  rcases Nat.lt_or_ge j s.codes.length with hlt | hge
                  · obtain ⟨z, hz⟩ : ∃ z, s.codes[j]? = some z := ⟨_, List.getElem?_eq_getElem hlt⟩
                    have hg : (icel s.codes)[j]? = some (.v (.int .i64 z)) := by rw [icel_get, hz]; rfl
                    have hr : (nrow s.codes)[j]? = some [.v (.int .i64 z)] := by rw [nrow_get, hz]; rfl
                    clear hS6
                    repeat' (first
| ((with_reducible apply opsF.op rfl); (case hs => exact is_load (v := .v (.int .i64 z)) tEV tHE (by simpa [rd] using hg)))
| ((with_reducible first | apply opsF.op rfl | apply dopsF.op rfl); case hs => first | exact tHT | exact tHS)
| (with_reducible first | apply opsF.nil | apply seqF.nn | apply vcF.seq | apply vcF.region | apply vcF.dregion | apply vcF.skip | apply vcF.block | apply vcF.exit | apply vcF.ret | apply vcF.loop | apply seqF.e | apply seqF.r | apply blkF.nn | apply blkF.e | apply blkF.r | apply blkF.o rfl | apply dopsF.nil | apply stabsF.nil | apply stabsF.cons | apply dopsF.cont)
| ((with_reducible first | apply opsF.call | apply dopsF.call); case hx => exact tAG)
| ((with_reducible first | apply opsF.want | apply dopsF.want | apply stabF.want); (case hg => exact tEV); case hb => exact tNB)
| ((with_reducible first | apply opsF.skip | apply dopsF.skip | apply stabF.skip); (case hg => exact tEV); case hb => exact tNB)
| (first | ((with_reducible first | apply opsF.case | apply dopsF.case); case hg => exact tEV) | ((with_reducible apply vcF.cond); case hx => exact tEV)) <;> ((intro hc; try simp only [Int.reduceLT, Int.reduceLE, Int.reduceEq, Int.reduceNe, Int.cast_ofNat_Int, Int.reduceNeg, reduceCtorEq, ne_eq, ge_iff_le, gt_iff_lt, beq_iff_eq, beq_eq_false_iff_ne, bne_iff_ne, bne_eq_false_iff_eq, nrm, *] at hc) <;> try (exfalso; omega))
| ((with_reducible first | apply opsF.und | apply dopsF.und); case hg => rfl)
| ((with_reducible apply stabF.und); rfl)
| ((with_reducible apply stabF.op); (case hs => first | exact tHT | exact tHS); case hv => exact tSV)
| ((with_reducible first | apply retF.r | apply retF.nn); case hv => exact tRS)
| fail)
                    all_goals exact ⟨j + 1, by omega, rfl, ⟨q4, q5, q16, q17, q18⟩, q24, rfl, by omega⟩
                  · repeat' (first
| ((with_reducible first | apply opsF.op rfl | apply dopsF.op rfl); case hs => first | exact tHT | exact tHS)
| (with_reducible first | apply opsF.nil | apply seqF.nn | apply vcF.seq | apply vcF.region | apply vcF.dregion | apply vcF.skip | apply vcF.block | apply vcF.exit | apply vcF.ret | apply vcF.loop | apply seqF.e | apply seqF.r | apply blkF.nn | apply blkF.e | apply blkF.r | apply blkF.o rfl | apply dopsF.nil | apply stabsF.nil | apply stabsF.cons | apply dopsF.cont)
| ((with_reducible first | apply opsF.call | apply dopsF.call); case hx => exact tAG)
| ((with_reducible first | apply opsF.want | apply dopsF.want | apply stabF.want); (case hg => exact tEV); case hb => exact tNB)
| ((with_reducible first | apply opsF.skip | apply dopsF.skip | apply stabF.skip); (case hg => exact tEV); case hb => exact tNB)
| (first | ((with_reducible first | apply opsF.case | apply dopsF.case); case hg => exact tEV) | ((with_reducible apply vcF.cond); case hx => exact tEV)) <;> ((intro hc; try simp only [Int.reduceLT, Int.reduceLE, Int.reduceEq, Int.reduceNe, Int.cast_ofNat_Int, Int.reduceNeg, reduceCtorEq, ne_eq, ge_iff_le, gt_iff_lt, beq_iff_eq, beq_eq_false_iff_ne, bne_iff_ne, bne_eq_false_iff_eq, nrm, *] at hc) <;> try (exfalso; omega))
| ((with_reducible first | apply opsF.und | apply dopsF.und); case hg => rfl)
| ((with_reducible apply stabF.und); rfl)
| ((with_reducible apply stabF.op); (case hs => first | exact tHT | exact tHS); case hv => exact tSV)
| ((with_reducible first | apply retF.r | apply retF.nn); case hv => exact tRS))
                    all_goals exact ⟨i + 1, by omega, s6, hS6, ho6, ⟨q4, q5, q16, q17, by first | rfl | (congr 2; omega)⟩, by omega⟩
              all_goals first
                | exact ⟨_, hp2, ⟨q4, q5, q16, q17, q18⟩⟩
                | exact ⟨_, S, ⟨q4, q5, q16, q17, q18⟩⟩
            all_goals first
              | exact ⟨_, hp2, ⟨q4, q5, q16, q17, q18⟩⟩
              | exact ⟨_, (hsm (by omega)) ▸ S, ⟨q4, q5, q16, q17, q18⟩⟩
  · repeat' (first
| ((with_reducible first | apply opsF.op rfl | apply dopsF.op rfl); case hs => first | exact tHT | exact tHS)
| (with_reducible first | apply opsF.nil | apply seqF.nn | apply vcF.seq | apply vcF.region | apply vcF.dregion | apply vcF.skip | apply vcF.block | apply vcF.exit | apply vcF.ret | apply vcF.loop | apply seqF.e | apply seqF.r | apply blkF.nn | apply blkF.e | apply blkF.r | apply blkF.o rfl | apply dopsF.nil | apply stabsF.nil | apply stabsF.cons | apply dopsF.cont)
| ((with_reducible first | apply opsF.call | apply dopsF.call); case hx => exact tAG)
| ((with_reducible first | apply opsF.want | apply dopsF.want | apply stabF.want); (case hg => exact tEV); case hb => exact tNB)
| ((with_reducible first | apply opsF.skip | apply dopsF.skip | apply stabF.skip); (case hg => exact tEV); case hb => exact tNB)
| (first | ((with_reducible first | apply opsF.case | apply dopsF.case); case hg => exact tEV) | ((with_reducible apply vcF.cond); case hx => exact tEV)) <;> ((intro hc; try simp only [Int.reduceLT, Int.reduceLE, Int.reduceEq, Int.reduceNe, Int.cast_ofNat_Int, Int.reduceNeg, reduceCtorEq, ne_eq, ge_iff_le, gt_iff_lt, beq_iff_eq, beq_eq_false_iff_ne, bne_iff_ne, bne_eq_false_iff_eq, nrm, *] at hc) <;> try (exfalso; omega))
| ((with_reducible first | apply opsF.und | apply dopsF.und); case hg => rfl)
| ((with_reducible apply stabF.und); rfl)
| ((with_reducible apply stabF.op); (case hs => first | exact tHT | exact tHS); case hv => exact tSV)
| ((with_reducible first | apply retF.r | apply retF.nn); case hv => exact tRS)
| ((refine Call.use (ha _) ?_)))
    all_goals rfl
end Go.Abs.F
