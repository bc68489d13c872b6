/- The contract of decode and Decode of the reference: layer 10. -/
import Derived.Test.YtjaofbfppnmdjaaTlvI
import Derived.Test.YtjaofbfppnmdjaaTlvG
import Derived.Test.YtjaofbfppnmdjaaCut
namespace Go.Proofs.Ytjaofbfppnmdjaa
open Go.RowKit
attribute [local go_sem ↓] Go.wp_at_zero Go.wp_at_succ
attribute [local go_sem high] slice_lh slice_lhm slice_l slice_h

def lenOf : Value → Nat
  | .slice _ n _ => n
  | _ => 0
def Low (w : World) : Nat → Prop := fun k => k < w.heap.size
theorem nd_nil {α : Type} (R : Rk α) (V : Nat → Prop) (w : World) : (nodesRk R).rk V w (.slice none 0 0) [] := RS.nil _ _ _ _

/-- An empty row of one's own. -/
theorem World.ownsRow_litB (w : World) (B : Nat) (hB : w.heap.size = B) : (w.alloc (.cells #[] 5)).ownsRow B 5 1 (.slice (some ⟨B, 0, none⟩) 0 0) 0 [] := by
  subst hB
  exact World.ownsRow_lit w #[] 0 (Nat.le_refl _) (by unfold maxLen; omega) rfl
theorem Agree.setCell {V : Nat → Prop} {w : World} {p : Addr} (hp : V p.block) (u : Value) : Agree V w (w.setCell p u) :=
  ⟨by simp [World.setCell], fun k _ hk => Below.heap_setCell _ _ _ _ (fun e => hk (by rw [e]; exact hp))⟩
/-- A row that is being built takes one more node. -/
theorem Built.grow {α : Type} {R : Rk α} {V : Nat → Prop} {base : Nat} {e : TypeId} {w : World} {v : Value} {l : List (NodeOf α)} (h : Built R V base e w v l) : ∃ flat : List Value, w.ownsRow base e 3 v l.length flat ∧
    ∀ (x : NodeOf α) (cs : List Value) (w1 w2 : World) (v' : Value), Ext w w1 → cs.length = 3 → nodeRep R (With V v) w1 x cs → w2.ownsRow base e 3 v' (l.length + 1) (flat ++ cs) → w1.grownBy w2 v.ownBlock → (v'.ownBlock = v.ownBlock ∨ v'.ownBlock = some w1.heap.size) → Built R V base e w2 v' (l ++ [x]) := by
  obtain ⟨css, hown, hlen, h3, hrep⟩ := h
  exact ⟨css.flatten, hown, fun x cs w1 w2 v' he hc hx ho hg hat => Built.push hlen h3 hrep hc he hx ho hg hat⟩

set_option maxRecDepth 100000 in
set_option maxHeartbeats 4000000 in
theorem decode10_step {α : Type} (R : Rk α) (kid : List Int → List α × Int) (d : Int) (bs : List Int) (v : Value) (w : World) (h : RB Any w v bs) (hl : bs.length ≤ 1000000) (hd0 : 0 ≤ d) (hRn : ∀ V w, R.rk V w (.slice none 0 0) [])
    (hk : d ≤ 6 → ∀ w1 kv kb, kb.length ≤ 1000000 → RB Any w1 kv kb → Calls Try.prog 75 #[kv, .int .i64 (d + 1)] w1 (RetKE R w1 (kid kb))) :
    Calls Try.prog 75 #[v, .int .i64 d] w (RetKE (nodesRk R) w (decS d kid bs)) := by
  obtain ⟨i0, hi0, hz0, hz1, hz2⟩ := info_parts info_rnode
  obtain ⟨j0, hj0, hy0, hy1, hy2⟩ := info_parts info_byte
  obtain ⟨a, c, rfl, hc1, hc2⟩ := h.form
  have HH := Lib.hid h
  have HK := Lib.hid hk
  clear h hk hc2 hc1
  go_enter Try.func75, Try.ntmps75
  go_wp2
  go_loopw [0, 6] (fun b o wr => ∃ (rest : List Int) (acc : List (NodeOf α)), RB Any w b rest ∧ acc.length + rest.length ≤ bs.length ∧ Built R (Low w) w.heap.size 98 wr o acc ∧ Ext w wr ∧ runD acc (decS d kid rest) = decS d kid bs) (fun b _ _ => lenOf b)
  case atStart => exact ⟨bs, [], HH.out, by simp, Built.nil _ _ _ _ _, Ext.refl _, runD_zero _ _ _⟩
  case round =>
    obtain ⟨rest, acc, hr0, hlen, hbuilt, hx, hrun⟩ := hrel
    have hr := hr0.ext hx
    have HR0 := Lib.hid hr0
    clear hr0
    obtain ⟨ra, rc, rfl, hr1, hr2⟩ := hr.form
    by_cases hne : rest = []
    · subst hne
      rw [runD_nil] at hrun
      have HB := Lib.hid hbuilt
      have HR := Lib.hid hrun
      clear hbuilt hrun
      go_wp2
      obtain ⟨a', c', rfl⟩ := owns_slice HB.out.choose_spec.1
      go_ret2
      rw [← HR.out]
      exact ⟨a', c', rfl, hx, fun V hV => (nodesRk R).weak (HB.out.done (fun k hk => hk)) (fun k _ hk => hV k hk)⟩
    · have hpos : 0 < rest.length := List.length_pos_iff.2 hne
      have hh := Lib.hid (head_any rest _ d wr hr hpos (by omega))
      obtain ⟨b, off, c', hv, hcap, hcm, _, hcell⟩ := hr.at_ hpos
      simp only [Value.slice.injEq] at hv
      obtain ⟨rfl, -, rfl⟩ := hv
      have hbad := Lib.hid (decS_bad d kid hne)
      have hgood := Lib.hid (fun h => hd_ok (d := d) hne h)
      have hstep := Lib.hid (fun h => decS_step d kid hne h)
      have hkbad := Lib.hid (fun h => decS_kid d kid hne h)
      generalize hhd : hd rest d = H at *
      obtain ⟨t, f, n, er⟩ := H
      simp only at *
      have HR := Lib.hid hrun
      have HB := Lib.hid hbuilt
      have HRR := Lib.hid hr
      clear hrun hbuilt hr hhd hcell
      by_cases her : er = 0
      · subst her
        obtain ⟨h2f, hfn, hd6, -, -, -, -, -⟩ := hgood.out rfl
        have HSUB := Lib.hid (fun (w1 : World) (he : Ext wr w1) => (HRR.out.ext he).cut f n)
        have HTAIL : Hid (RB Any w (.slice (cutA b off rc (f + n)) (rest.length - (f + n)) (rc - (f + n))) (rest.drop (f + n))) := by
          have h1 := HR0.out.cut (f + n) (rest.length - (f + n)) rc (rc - (f + n)) (by omega) (by omega) (by omega) (by omega)
          rwa [List.take_of_length_le (by simp)] at h1
        have hnr := Lib.hid (nestedR_any t)
        have hkc := Lib.hid (fun w1 kv => HK.out hd6 w1 kv ((rest.drop f).take n) (by simp; omega))
        obtain ⟨flat, hown, hpush⟩ := HB.out.grow
        have HO := Lib.hid hown
        have HP := Lib.hid hpush
        have hVr : ∀ g, With (Low w) u6 g → g < wr.heap.size := With.lt (fun g hg => hx.lt hg) hown
        have HVR := Lib.hid hVr
        have HXB := Lib.hid ((HRR.out.byt.drop f).take n)
        have hxl : ((rest.drop f).take n).length = n := by simp; omega
        have hst := Lib.hid (hstep.out rfl)
        have hkb := Lib.hid (hkbad.out rfl)
        generalize hX : (rest.drop f).take n = X at *
        generalize hT : rest.drop (f + n) = T at *
        have hTl : T.length = rest.length - (f + n) := by rw [← hT]; simp
        have HXL := Lib.hid hxl
        have HTL := Lib.hid hTl
        generalize hnb : nestB t = nb at *
        generalize hkX : kid X = Y at *
        obtain ⟨ks, ke⟩ := Y
        simp only at *
        generalize hrl : rest.length = m at *
        generalize hal : acc.length = al at *
        generalize hbl : bs.length = bl at *
        have HAL := Lib.hid hal
        clear hown hpush hVr hgood hbad hstep hkbad hX hT hTl hxl hnb hkX hrl hne hal hbl HH HK
        have hmi : (0 : Int) < m := by omega
        have hfc : f + n ≤ rc := by omega
        cases nb
        · -- a primitive node
          go_wp2_with (first
            | (go_at_call 89; refine hh.out.mono ?_; rintro e w1 ⟨rfl, he1⟩)
            | (go_at_call 87; refine (hnr.out _).mono ?_; rintro e w2 ⟨rfl, rfl⟩)
            | (at_builtin; refine wpList_append_src _ rfl (.tmp 49) (.tmp 55) _ rfl (w1.heap.size + 1) 5 j0 _ 1 1 Try.underlying25 hj0 hy0 hy1 hy2 rfl (by omega) _ 0 [] rfl (World.ownsRow_litB (w1.alloc (.cells #[.int .i64 t, .slice none 0 0, .slice none 0 0] 98)) (w1.heap.size + 1) (by simp)) _ n _ _ rfl (Src.bytes (HSUB.out _ ((he1.alloc _).alloc _) rc (rc - f) (by omega) (by omega) (by omega) (by omega))) (by unfold maxLen; omega) (by omega) (by simp) ?_; (intro A2 c2 w2 hown2 hg2 hat2; simp only [Nat.zero_add, List.nil_append] at hown2 hat2; have EX2 : Ext (w1.alloc (.cells #[.int .i64 t, .slice none 0 0, .slice none 0 0] 98)) w2 := ((Ext.refl _).alloc _).grown hg2 (fun g hg => by have h5 := ((World.ownsRow_litB (w1.alloc (.cells #[.int .i64 t, .slice none 0 0, .slice none 0 0] 98)) (w1.heap.size + 1) (by simp)).lt g hg).1; simpa using h5); have EX3 : Ext wr (w2.setCell ⟨w1.heap.size, 1, none⟩ (.slice A2 n c2)) := ((he1.alloc _).trans EX2).setCell he1.size _; have q3 : w2.frozen? ⟨w1.heap.size, 1, none⟩ = false := (EX2.frozen (p := ⟨w1.heap.size, 1, none⟩) (by simp)).trans (by simp); have q0 := EX2.cell (p := ⟨w1.heap.size, 0, none⟩) (v := .int .i64 t) (by simp); have q1 := EX2.cell (p := ⟨w1.heap.size, 1, none⟩) (v := .slice none 0 0) (by simp); have q2 := EX2.cell (p := ⟨w1.heap.size, 2, none⟩) (v := .slice none 0 0) (by simp)))
            | (at_builtin; refine wpList_append_src _ rfl (.tmp 58) (.tmp 60) _ rfl w.heap.size 98 i0 _ 3 56 Try.underlying35 hi0 hz0 hz1 hz2 rfl (by omega) u6 al flat rfl (own_ext HO.out (EX3.alloc _)) _ 1 1 _ rfl (Src.litB _ #[.int .i64 t, (.slice A2 n c2), (.slice none 0 0)] _ 3 _ (by simp) rfl (by simp [Value.oneCell'])) (by unfold maxLen; omega) (by omega) (Nat.le_trans (hx.trans EX3).size (by simp)) ?_; intro A3 c3 w3 hown3 hg3 hat3))
          have hx3 : Ext w w3 := (hx.trans (EX3.alloc _)).grown hg3 (fun g hg => (HO.out.lt g hg).1)
          have hnode : nodeRep R (With (Low w) u6) ((w2.setCell ⟨w1.heap.size, 1, none⟩ (.slice A2 n c2)).alloc (.cells #[.int .i64 t, (.slice A2 n c2), (.slice none 0 0)] 98)) (t, X, []) [.int .i64 t, (.slice A2 n c2), (.slice none 0 0)] := by
            refine ⟨_, _, rfl, ?_, hRn _ _⟩
            have h5 : RB (fun k => k < w1.heap.size + 1) w2 (.slice A2 n c2) X := RB.of_own (by rw [HXL.out]; exact hown2) HXB.out (fun k hk => hk)
            exact ((h5.agree (Agree.setCell (p := ⟨w1.heap.size, 1, none⟩) (Nat.lt_succ_self _) _)).ext ((Ext.refl _).alloc _)).weak (fun k _ hk => Nat.lt_succ_of_lt (he1.lt (HVR.out k hk)))
          have hB3 := HP.out (t, X, []) [.int .i64 t, (.slice A2 n c2), (.slice none 0 0)] _ w3 (.slice A3 (al + 1) c3) (EX3.alloc _) rfl hnode hown3 hg3 hat3
          have hrun3 := hst.out (fun h => by cases h) acc
          rw [HR.out] at hrun3
          refine ⟨⟨T, acc ++ [(t, X, [])], HTAIL.out, ?_, hB3, hx3, ?_⟩, ?_⟩
          · rw [List.length_append, HAL.out, HTL.out]; simp; omega
          · rw [hrun3]; simp
          · simp only [lenOf]; omega
        · by_cases hke : ke = 0
          · subst hke
            go_wp2_with (first
              | (go_at_call 89; refine hh.out.mono ?_; rintro e w1 ⟨rfl, he1⟩)
              | (go_at_call 87; refine (hnr.out _).mono ?_; rintro e w2 ⟨rfl, rfl⟩)
              | (go_at_call 75; refine (hkc.out _ _ (HSUB.out _ (he1.alloc _) rc (rc - f) (by omega) (by omega) (by omega) (by omega))).mono ?_; (rintro e w2 ⟨A2, c2, rfl, EX2, hrk2⟩; have EX3 : Ext wr (w2.setCell ⟨w1.heap.size, 2, none⟩ (.slice A2 ks.length c2)) := ((he1.alloc _).trans EX2).setCell he1.size _; have q3 : w2.frozen? ⟨w1.heap.size, 2, none⟩ = false := (EX2.frozen (p := ⟨w1.heap.size, 2, none⟩) (by simp)).trans (by simp); have q0 := EX2.cell (p := ⟨w1.heap.size, 0, none⟩) (v := .int .i64 t) (by simp); have q1 := EX2.cell (p := ⟨w1.heap.size, 1, none⟩) (v := .slice none 0 0) (by simp); have q2 := EX2.cell (p := ⟨w1.heap.size, 2, none⟩) (v := .slice none 0 0) (by simp)))
              | (at_builtin; refine wpList_append_src _ rfl (.tmp 58) (.tmp 60) _ rfl w.heap.size 98 i0 _ 3 56 Try.underlying35 hi0 hz0 hz1 hz2 rfl (by omega) u6 al flat rfl (own_ext HO.out (EX3.alloc _)) _ 1 1 _ rfl (Src.litB _ #[.int .i64 t, (.slice none 0 0), (.slice A2 ks.length c2)] _ 3 _ (by simp) rfl (by simp [Value.oneCell'])) (by unfold maxLen; omega) (by omega) (Nat.le_trans (hx.trans EX3).size (by simp)) ?_; intro A3 c3 w3 hown3 hg3 hat3))
            have hx3 : Ext w w3 := (hx.trans (EX3.alloc _)).grown hg3 (fun g hg => (HO.out.lt g hg).1)
            have hnode : nodeRep R (With (Low w) u6) ((w2.setCell ⟨w1.heap.size, 2, none⟩ (.slice A2 ks.length c2)).alloc (.cells #[.int .i64 t, (.slice none 0 0), (.slice A2 ks.length c2)] 98)) (t, [], ks) [.int .i64 t, (.slice none 0 0), (.slice A2 ks.length c2)] := by
              refine ⟨_, _, rfl, RB.nil _ _, ?_⟩
              have h5 := hrk2 (fun k => k < w1.heap.size + 1) (fun k hk => by simpa using hk)
              exact R.weak (R.ext (R.agree h5 (Agree.setCell (p := ⟨w1.heap.size, 2, none⟩) (Nat.lt_succ_self _) _)) ((Ext.refl _).alloc _)) (fun k _ hk => Nat.lt_succ_of_lt (he1.lt (HVR.out k hk)))
            have hB3 := HP.out (t, [], ks) [.int .i64 t, (.slice none 0 0), (.slice A2 ks.length c2)] _ w3 (.slice A3 (al + 1) c3) (EX3.alloc _) rfl hnode hown3 hg3 hat3
            have hrun3 := hst.out (fun _ => by first | rfl | trivial) acc
            rw [HR.out] at hrun3
            refine ⟨⟨T, acc ++ [(t, [], ks)], HTAIL.out, ?_, hB3, hx3, ?_⟩, ?_⟩
            · rw [List.length_append, HAL.out, HTL.out]; simp; omega
            · rw [hrun3]; simp
            · simp only [lenOf]; omega
          · have hke2 : (ke != 0) = true := by simpa using hke
            have HKB := Lib.hid (HR.out.symm.trans (hkb.out rfl hke acc))
            clear hkb hst
            go_wp2_with (first
              | (go_at_call 89; refine hh.out.mono ?_; rintro e w1 ⟨rfl, he1⟩)
              | (go_at_call 87; refine (hnr.out _).mono ?_; rintro e w2 ⟨rfl, rfl⟩)
              | (go_at_call 75; refine (hkc.out _ _ (HSUB.out _ (he1.alloc _) rc (rc - f) (by omega) (by omega) (by omega) (by omega))).mono ?_; rintro e w2 ⟨A2, c2, rfl, EX2, hrk2⟩))
            go_ret2
            rw [HKB.out]
            exact RetKE.nil (nodesRk R) (nd_nil R) ke (hx.trans ((he1.alloc _).trans EX2))
      · have hb2 := hbad.out her acc
        rw [HR.out] at hb2
        have HB2 := Lib.hid hb2
        have her2 : (er != 0) = true := by simpa using her
        generalize rest.length = m at *
        have hmi : (0 : Int) < m := by omega
        clear hb2 hbad hgood hstep hkbad
        go_wp2_with (go_at_call 89; refine hh.out.mono ?_; rintro e w1 ⟨rfl, he1⟩)
        go_ret2
        rw [HB2.out]
        exact RetKE.nil (nodesRk R) (nd_nil R) er (hx.trans he1)
theorem decode10_any : ∀ (n : Nat) (d : Int) (bs : List Int) (v : Value) (w : World), 7 ≤ n + d → 0 ≤ d → RB Any w v bs → bs.length ≤ 1000000 → Calls Try.prog 75 #[v, .int .i64 d] w (RetKE (RkN n) w (decN n d bs))
  | 0, d, bs, v, w, h7, h0, h, hl => by
    refine (decode10_step emptyRk (fun _ => ([], 0)) d bs v w h hl h0 (fun V w => rk_nil 0 V w) (fun h6 => by omega)).mono fun e w' ⟨a, c, he, hx, hr⟩ => ?_
    have e1 : decS (α := Empty) d (fun _ => ([], 0)) bs = ([], (decN 0 d bs).2) := by
      have k := runD_zero (α := Empty) d (fun _ => ([], 0)) bs
      by_cases hb : bs = []
      · subst hb; rfl
      · have h1 : (hd bs d).2.2.2 ≠ 0 := fun h1 => by have := (hd_ok hb h1).2.2.1; omega
        rw [← k, decS_bad d _ hb h1]
        simp [decN, hb]
    rw [e1] at he hr
    exact ⟨a, c, he, hx, fun V hV => (by
      obtain ⟨a', c', hv, h1, h2, _⟩ := (show RS V 3 _ w' _ [] from hr V hV)
      exact ⟨a', c', hv, h1, h2, fun h => absurd rfl h⟩ : RS V 3 (fun _ (_ : Empty) _ => True) w' _ [])⟩
  | n + 1, d, bs, v, w, h7, h0, h, hl => decode10_step (RkN n) (decN n (d + 1)) d bs v w h hl h0 (fun V w => rk_nil n V w) (fun h6 w1 kv kb hkl hkb => decode10_any n (d + 1) kb kv w1 (by omega) (by omega) hkb hkl)
/-- What Decode gives. -/
def decTop (n : Nat) (bs : List Int) : List (Nd n) × Int := if 1500 < bs.length then ([], 4) else decN n 0 bs
theorem decodeR_any (n : Nat) (bs : List Int) (v : Value) (w : World) (hn : 7 ≤ n) (h : RB Any w v bs) : Calls Try.prog 53 #[v] w (RetKE (RkN n) w (decTop n bs)) := by
  obtain ⟨a, c, rfl, _, _⟩ := h.form
  by_cases hl : 1500 < bs.length
  · have e : decTop n bs = ([], 4) := by unfold decTop; rw [if_pos hl]
    rw [e]
    generalize bs.length = m at *
    have hm : (1500 : Int) < m := by omega
    clear e
    go_enter Try.func53, Try.ntmps53
    go_wp2
    go_ret2
    exact ⟨none, 0, rfl, Ext.refl _, fun V _ => rk_nil n V _⟩
  · have e : decTop n bs = decN n 0 bs := by unfold decTop; rw [if_neg hl]
    rw [e]
    have hc := Lib.hid (decode10_any n 0 bs _ w (by omega) (by omega) h (by omega))
    generalize decN n 0 bs = z at *
    generalize bs.length = m at *
    have hm : (m : Int) ≤ 1500 := by omega
    clear e
    go_enter Try.func53, Try.ntmps53
    go_wp2_with (go_at_call 75; refine hc.out.mono ?_; rintro e w1 ⟨a1, c1, rfl, he1, hr1⟩)
    go_ret2
    exact ⟨a1, c1, rfl, he1, hr1⟩
end Go.Proofs.Ytjaofbfppnmdjaa
