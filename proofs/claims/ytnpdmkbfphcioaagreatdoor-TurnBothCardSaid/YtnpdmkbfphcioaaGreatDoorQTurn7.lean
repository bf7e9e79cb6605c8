/- What the proof needs, part 7: A program logic over abstract states, 15: every operation that has a compact form. -/
import Derived.Test.YtnpdmkbfphcioaaGreatDoorQTurn6
/- A program logic over abstract states, 15: every operation that has a compact form. -/
namespace Go.Abs
open Go Go.RowKit
set_option linter.unusedVariables false
set_option linter.unusedSimpArgs false

section
variable {P : Program} {w0 : World} {Γ : Con} {h : AH} {w : World} {fr : List AV} {a : Act}

theorem toList2 {α : Type} {xs : Array α} {l : List α} (h : xs.toList = l) : xs = l.toArray := by subst h; simp

theorem call_sound {o : Oper} {c : Call} (hop : o.op = .call c) {i : IOp} (hc : compCall P c = some i) (H : WR w0 Γ h w) (hf : FR Γ fr a) {v : AV} {h' : AH} (hs : istep i (ev fr) h = some (v, h')) : Res P w0 Γ ((execOp a.eval o).run P w) v h' := by
  obtain ⟨callee, args, ts⟩ := c
  unfold compCall at hc
  split at hc <;> rename_i hcal <;> (try (simp only at hcal; subst hcal))
  · -- len
    split at hc
    · rename_i X t hargs hts
      simp only at hargs hts
      obtain rfl := toList2 hargs
      obtain rfl := toList2 hts
      split at hc
      · rename_i hu
        obtain ⟨x, rfl, hx⟩ := c1_inv hc hf
        exact snd_len (k := .str) hop hu hx H hs
      · rename_i hu
        obtain ⟨x, rfl, hx⟩ := c1_inv hc hf
        exact snd_len (k := .sl) hop ⟨_, hu⟩ hx H hs
      · rename_i hu
        obtain ⟨x, rfl, hx⟩ := c1_inv hc hf
        exact snd_len (k := .map) hop ⟨_, _, hu⟩ hx H hs
      · cases hc
    · cases hc
  · -- cap
    split at hc
    · rename_i X t hargs hts
      simp only at hargs hts
      obtain rfl := toList2 hargs
      obtain rfl := toList2 hts
      split at hc
      · rename_i hu
        obtain ⟨x, rfl, hx⟩ := c1_inv hc hf
        exact snd_cap hop hu hx H hs
      · cases hc
    · cases hc
  · -- append
    split at hc
    · rename_i X Y t u hargs hts
      simp only at hargs hts
      obtain rfl := toList2 hargs
      obtain rfl := toList2 hts
      have key : ∀ el, P.underlying t = some (.slice el) → slOrStr P u → (match P.info? el with
          | some i => match i.zero with
            | some z => if z.cells.size == i.size && i.bytes != 0 && z.cells.toList.all (·.oneCell') then c2 P t X u Y (.app i.size i.bytes) else none
            | none => none
          | none => none) = some i → Res P w0 Γ ((execOp a.eval o).run P w) v h' := by
        intro el hu hxt hc
        split at hc
        · rename_i inf hin
          split at hc
          · rename_i z hz
            split at hc
            · rename_i hb
              simp only [Bool.and_eq_true, beq_iff_eq, bne_iff_ne, ne_eq] at hb
              obtain ⟨x, y, rfl, hx, hy⟩ := c2_inv hc hf
              exact snd_app hop ⟨_, _, _, hu, hin, hz, rfl, hb.1.1, rfl⟩ hxt (Nat.pos_of_ne_zero hb.1.2) hx hy H hs
            · cases hc
          · cases hc
        · cases hc
      split at hc
      · rename_i hu hv; exact key _ hu (.inl ⟨_, hv⟩) hc
      · rename_i hu hv; exact key _ hu (.inr hv) hc
      · cases hc
    · cases hc
  · -- copy
    split at hc
    · rename_i X Y t u hargs hts
      simp only at hargs hts
      obtain rfl := toList2 hargs
      obtain rfl := toList2 hts
      split at hc
      · rename_i hu
        split at hc
        · rename_i hin
          obtain ⟨x, y, rfl, hx, hy⟩ := c2_inv hc hf
          exact snd_cpy hop hu hin hx hy H hs
        · cases hc
      · cases hc
    · cases hc
  · -- min
    simp only [Option.map_eq_some_iff] at hc
    obtain ⟨xs, hxs, rfl⟩ := hc
    exact snd_mnx (mx := false) hop hxs hf H hs
  · -- max
    simp only [Option.map_eq_some_iff] at hc
    obtain ⟨xs, hxs, rfl⟩ := hc
    exact snd_mnx (mx := true) hop hxs hf H hs
  · -- delete
    split at hc
    · rename_i X Y t u hargs hts
      simp only at hargs hts
      obtain rfl := toList2 hargs
      obtain rfl := toList2 hts
      split at hc
      · rename_i hu
        split at hc
        · rename_i hck
          obtain ⟨x, y, rfl, hx, hy⟩ := c2_inv hc hf
          exact snd_del hop hu hck hx hy H hs
        · cases hc
      · cases hc
    · cases hc
  · simp only [Option.map_eq_some_iff] at hc
    obtain ⟨xs, hxs, rfl⟩ := hc
    simp [istep] at hs
  · split at hc
    · injection hc with hc
      subst hc
      simp [istep] at hs
    · cases hc
  · cases hc

theorem step_sound {rows : List Nat} {o : Oper} {i : IOp} (hc : compOp P rows o = some i) (H : WR w0 Γ h w) (hf : FR Γ fr a) {v : AV} {h' : AH} (hs : istep i (ev fr) h = some (v, h')) : Res P w0 Γ ((execOp a.eval o).run P w) v h' := by
  unfold compOp at hc
  split at hc <;> rename_i hop
  · -- move
    obtain ⟨x, rfl, hx⟩ := c1_inv hc hf
    simp only [istep, Option.some.injEq, Prod.mk.injEq] at hs
    obtain ⟨rfl, rfl⟩ := hs
    exact Res.same (by unfold execOp; simp only [hop]; rfl) hx H
  · obtain ⟨x, rfl, hx⟩ := c1_inv hc hf
    simp only [istep, Option.some.injEq, Prod.mk.injEq] at hs
    obtain ⟨rfl, rfl⟩ := hs
    exact Res.same (by unfold execOp; simp only [hop]; rfl) hx H
  · -- pick
    obtain ⟨x, y, z, rfl, hx, hy, hz⟩ := c3_inv hc hf
    simp only [istep] at hs
    split at hs
    · rename_i t ht
      rw [ht] at hx
      simp only [Option.some.injEq, Prod.mk.injEq] at hs
      obtain ⟨rfl, rfl⟩ := hs
      cases t
      · exact Res.same (by unfold execOp; simp only [hop, hx.inv_v, asBool]; rfl) hz H
      · exact Res.same (by unfold execOp; simp only [hop, hx.inv_v, asBool]; rfl) hy H
    · cases hs
  · -- alloc
    simp only [Option.map_eq_some_iff] at hc
    obtain ⟨z, hz, rfl⟩ := hc
    split at hs
    · rename_i hkb
      exact snd_newT (e := ev fr) hop hz (by simp only [Bool.and_eq_true] at hkb; exact hkb.2) H hs
    · exact snd_new (e := ev fr) hop hz H hs
  · obtain ⟨x, rfl, hx⟩ := c1_inv hc hf
    exact snd_box hop hx H hs
  · -- build
    split at hc
    · rename_i fs z hu hz
      split at hc
      · rename_i hall
        simp only [Option.map_eq_some_iff] at hc
        obtain ⟨qs, hq, rfl⟩ := hc
        exact snd_buildS hop hu hz hall hq hf H hs
      · cases hc
    · rename_i n el z hu hz
      split at hc
      · rename_i inf hin
        simp only [Option.map_eq_some_iff] at hc
        obtain ⟨qs, hq, rfl⟩ := hc
        exact snd_buildA hop hu hz hin hq hf H hs
      · cases hc
    · cases hc
  · -- buildSlice
    split at hc
    · rename_i el hu
      split at hc
      · rename_i inf z qs hin hz hq
        split at hc
        · rename_i hb
          simp only [Bool.and_eq_true, beq_iff_eq, bne_iff_ne, ne_eq, decide_eq_true_eq] at hb
          injection hc with hc
          refine snd_lit hop hu hin hz hq hb.1.1 hb.2 hf H ((o.dst.map fun d => rows.contains d).getD false) ?_
          rw [hc]; exact hs
        · cases hc
      · cases hc
    · cases hc
  · -- load
    split at hc
    · rename_i s hag
      obtain ⟨x, rfl, hx⟩ := c1_inv hc hf
      exact snd_load hop hag hx H hs
    · cases hc
  · -- store
    split at hc
    · rename_i inf hin
      obtain ⟨x, y, rfl, hx, hy⟩ := c2_inv hc hf
      exact snd_store hop hin hx hy H hs
    · cases hc
  · obtain ⟨x, rfl, hx⟩ := c1_inv hc hf
    exact snd_nilc hop hx H hs
  · -- binOp
    split at hc
    · rename_i k hk
      obtain ⟨x, y, rfl, hx, hy⟩ := c2_inv hc hf
      exact snd_bin hop hk hx hy H hs
    · cases hc
  · obtain ⟨x, rfl, hx⟩ := c1_inv hc hf
    exact snd_un hop hx H hs
  · -- convert
    split at hc
    · rename_i hu hd
      obtain ⟨x, rfl, hx⟩ := c1_inv hc hf
      exact snd_convI hop hu hd hx H hs
    · rename_i hu hd
      obtain ⟨x, rfl, hx⟩ := c1_inv hc hf
      exact snd_convS hop hu hd hx H hs
    · rename_i hu hd
      split at hc
      · rename_i h8
        obtain ⟨x, rfl, hx⟩ := c1_inv hc hf
        exact snd_s2b hop hu hd h8 hx H hs
      · cases hc
    · rename_i hu hd
      split at hc
      · rename_i h8
        obtain ⟨x, rfl, hx⟩ := c1_inv hc hf
        exact snd_b2s hop hu hd h8 hx H hs
      · cases hc
    · cases hc
  · -- makeInterface
    split at hc
    · cases hc
    · rename_i d hd hu
      obtain ⟨x, rfl, hx⟩ := c1_inv hc hf
      exact snd_mki hop hu (fun ms e => hd ms (by rw [e])) hx H hs
    · cases hc
  · -- makeFunc
    split at hc
    · rename_i xs ys hx hy
      injection hc with hc
      subst hc
      exact snd_mkf hop hx hy hf H hs
    · cases hc
  · injection hc with hc
    subst hc
    exact snd_mkm (e := ev fr) hop H hs
  · -- makeSlice
    split at hc
    · rename_i el hu
      split at hc
      · rename_i inf z hin hz
        split at hc
        · rename_i hb
          simp only [beq_iff_eq] at hb
          obtain ⟨x, y, rfl, hx, hy⟩ := c2_inv hc hf
          exact snd_mks hop hu hin hz hb hx hy H hs
        · cases hc
      · cases hc
    · cases hc
  · -- slice
    split at hc
    · rename_i hu
      split at hc
      · rename_i x lo hi hx hlo hhi
        injection hc with hc
        subst hc
        exact snd_slS hop hu (hf.eval hx) (copt_inv hlo hf) (copt_inv hhi hf) H hs
      · cases hc
    · rename_i el hu
      split at hc
      · rename_i inf hin
        split at hc
        · rename_i x lo hi mx hx hlo hhi hmx
          split at hc
          · rename_i hmh
            injection hc with hc
            subst hc
            exact snd_slL hop hu hin (hf.eval hx) (copt_inv hlo hf) (copt_inv hhi hf) (copt_inv hmx hf) hmh H hs
          · cases hc
        · cases hc
      · cases hc
    · rename_i n el hu
      split at hc
      · rename_i inf hin
        split at hc
        · rename_i x lo hi hx hlo hhi
          injection hc with hc
          subst hc
          exact snd_slA hop hu hin (hf.eval hx) (copt_inv hlo hf) (copt_inv hhi hf) H hs
        · cases hc
      · cases hc
    · cases hc
  · -- fieldAddr
    split at hc
    · rename_i fs hu
      split at hc
      · rename_i fd hfd
        split at hc
        · rename_i inf hin
          split at hc
          · rename_i h0
            simp only [bne_iff_ne, ne_eq] at h0
            obtain ⟨x, rfl, hx⟩ := c1_inv hc hf
            exact snd_fad hop hu hfd hin h0 hx H hs
          · cases hc
        · cases hc
      · cases hc
    · cases hc
  · -- field
    split at hc
    · rename_i fs hu
      split at hc
      · rename_i fd hfd
        split at hc
        · rename_i sz hag
          obtain ⟨x, rfl, hx⟩ := c1_inv hc hf
          exact snd_fld hop hu hfd hag hx H hs
        · cases hc
      · cases hc
    · cases hc
  · -- indexAddr
    split at hc
    · rename_i el hu
      split at hc
      · rename_i inf hin
        obtain ⟨x, y, rfl, hx, hy⟩ := c2_inv hc hf
        exact snd_iaL hop hu hin hx hy H hs
      · cases hc
    · rename_i n el hu
      split at hc
      · rename_i inf hin
        obtain ⟨x, y, rfl, hx, hy⟩ := c2_inv hc hf
        exact snd_iaA hop hu hin hx hy H hs
      · cases hc
    · cases hc
  · -- index
    split at hc
    · rename_i hu
      obtain ⟨x, y, rfl, hx, hy⟩ := c2_inv hc hf
      exact snd_ixS hop hu hx hy H hs
    · rename_i n el hu
      split at hc
      · rename_i inf sz hin hag
        obtain ⟨x, y, rfl, hx, hy⟩ := c2_inv hc hf
        exact snd_ixA hop hu hin hag hx hy H hs
      · cases hc
    · cases hc
  · -- lookup
    split at hc
    · rename_i hu
      split at hc
      · rename_i ck z hck hz
        obtain ⟨x, y, rfl, hx, hy⟩ := c2_inv hc hf
        exact snd_look hop hu hck hz hx hy H hs
      · cases hc
    · cases hc
  · -- mapUpdate
    split at hc
    · rename_i hu
      split at hc
      · rename_i ck hck
        obtain ⟨x, y, z, rfl, hx, hy, hz⟩ := c3_inv hc hf
        exact snd_upd (.inl hop) hu hck hx hy hz H hs
      · cases hc
    · cases hc
  · split at hc
    · rename_i hu
      split at hc
      · rename_i ck hck
        obtain ⟨x, y, z, rfl, hx, hy, hz⟩ := c3_inv hc hf
        exact snd_upd (.inr hop) hu hck hx hy hz H hs
      · cases hc
    · cases hc
  · obtain ⟨x, rfl, hx⟩ := c1_inv hc hf
    exact snd_ext hop hx H hs
  · -- range
    split at hc
    · rename_i hu
      obtain ⟨x, rfl, hx⟩ := c1_inv hc hf
      exact snd_rng hop hu hx H hs
    · cases hc
  · obtain ⟨x, rfl, hx⟩ := c1_inv hc hf
    exact snd_nxt hop hx H hs
  · exact call_sound hop hc H hf hs
  · cases hc
end
end Go.Abs
