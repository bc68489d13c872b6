/- The contract of read and Decode of the program: layer 10. -/
import Derived.Test.YtjaofbfppnmdjaaTlvJ
import Derived.WalkMore
import Derived.ScopeJumps
namespace Go.Proofs.Ytjaofbfppnmdjaa
open Go.RowKit
attribute [local go_sem ↓] Go.wp_at_zero Go.wp_at_succ
attribute [local go_sem high] slice_lh slice_lhm slice_l slice_h

/-- A scope whose gotos all go on to one label behind them: the rest is walked where the goto stands. -/
theorem wp_scope_fwd {P : Program} {a : Act} {w : World} {Q : Exit → Act → World → Prop} {c rest : Code} (l : Nat) (hf : findLabel c l = some rest)
    (first : c.wp P (Exit.jump l (fun a w => rest.wp P (Exit.jump l (fun _ _ => False) Q) a w) Q) a w) : (Code.scope c).wp P Q a w :=
  wp_scope_jumps l _ (fun _ _ => 0) hf first fun a w h => Code.wp_mono (fun e a w q => by
    cases e with
    | goto l' => exact ⟨q.1, q.2.elim⟩
    | _ => exact q) h

theorem info_node : (Try.prog.info? 45).map (fun i => (i.zero, i.size, i.bytes)) = some (some (.agg #[.int .i64 0, .slice none 0 0, .slice none 0 0]), 3, 56) := by kernel_rfl

/-- The head in the program's order. -/
theorem hd_parts (b : List Int) (d : Int) (t : Int) (r : List Int) (hb : b = t :: r) : hd b d = if tagB t = false then (0, 0, 0, 15) else if 6 < d then (0, 0, 0, 17) else if (rl b).2.2 ≠ 0 then (0, 0, 0, (rl b).2.2) else if b.length < (rl b).1 + (rl b).2.1 then (0, 0, 0, 13) else (t, (rl b).1, (rl b).2.1, 0) := by
  subst hb; rfl

theorem rl_bound {b : List Int} (hb : Byt b) : (rl b).1 ≤ 4 ∧ (rl b).2.1 ≤ 65535 := by
  unfold rl
  split
  · rename_i x0 x1 r
    have h1 := hb x1 (by simp)
    split
    · simp only; omega
    · split
      · split
        · rename_i x2 r
          have h2 := hb x2 (by simp)
          split <;> simp only <;> omega
        · simp
      · split
        · split
          · rename_i x2 x3 r
            have h2 := hb x2 (by simp)
            have h3 := hb x3 (by simp)
            split <;> simp only <;> omega
          · simp
        · simp
  · simp

set_option maxRecDepth 100000 in
set_option maxHeartbeats 4000000 in
theorem read_step {α : Type} (R : Rk α) (kid : List Int → List α × Int) (d : Int) (bs : List Int) (v : Value) (w : World) (h : RB Any w v bs) (hl : bs.length ≤ 1000000) (hd0 : 0 ≤ d) (hRn : ∀ V w, R.rk V w (.slice none 0 0) [])
    (hk : d ≤ 6 → ∀ w1 kv kb, kb.length ≤ 1000000 → RB Any w1 kv kb → Calls Try.prog 62 #[kv, .int .i64 (d + 1)] w1 (RetKE R w1 (kid kb))) :
    Calls Try.prog 62 #[v, .int .i64 d] w (RetKE (nodesRk R) w (decS d kid bs)) := by
  obtain ⟨i0, hi0, hz0, hz1, hz2⟩ := info_parts info_node
  obtain ⟨a, c, rfl, hc1, hc2⟩ := h.form
  have HH := Lib.hid h
  have HK := Lib.hid hk
  clear h hk hc2 hc1
  go_enter Try.func62, Try.ntmps62
  go_wp2
  refine wp_scope_fwd 0 rfl ?_
  go_wp2
  go_loopw [0, 6] (fun b o wr => ∃ (rest : List Int) (acc : List (NodeOf α)), RB Any w b rest ∧ acc.length + rest.length ≤ bs.length ∧ Built R (Low w) w.heap.size 45 wr o acc ∧ Ext w wr ∧ runD acc (decS d kid rest) = decS d kid bs) (fun b _ _ => lenOf b)
  case atStart => exact ⟨bs, [], HH.out, by simp, Built.nil _ _ _ _ _, Ext.refl _, runD_zero _ _ _⟩
  case round =>
    obtain ⟨rest, acc, hr0, hlen, hbuilt, hx, hrun⟩ := hrel
    have hr := hr0.ext hx
    have HR0 := Lib.hid hr0
    clear hr0
    obtain ⟨ra, rc, rfl, hr1, hr2⟩ := hr.form
    by_cases hne : rest = []
    · subst hne
      rw [runD_nil] at hrun
      have HB := Lib.hid hbuilt
      have HR := Lib.hid hrun
      clear hbuilt hrun
      go_wp2
      obtain ⟨a', c', rfl⟩ := owns_slice HB.out.choose_spec.1
      simp only [Exit.jump]
      go_ret2
      rw [← HR.out]
      exact ⟨a', c', rfl, hx, fun V hV => (nodesRk R).weak (HB.out.done (fun k hk => hk)) (fun k _ hk => hV k hk)⟩
    · have hpos : 0 < rest.length := List.length_pos_iff.2 hne
      obtain ⟨t, r, htr⟩ : ∃ t r, rest = t :: r := by
        cases rest with
        | nil => exact absurd rfl hne
        | cons t r => exact ⟨t, r, rfl⟩
      have hhd := hd_parts rest d t r htr
      have hti := Lib.hid (isTag_any t)
      have hrl := Lib.hid (fun w1 (he : Ext wr w1) => readLength_any rest _ w1 (hr.ext he))
      obtain ⟨b, off, c', hv, hcap, hcm, _, hcell⟩ := hr.at_ hpos
      simp only [Value.slice.injEq] at hv
      obtain ⟨rfl, -, rfl⟩ := hv
      have g0 : wr.cell? ⟨b, off, none⟩ = some (.int .u8 t) := by
        have h5 := hcell 0 hpos
        simp only [Nat.add_zero] at h5
        rw [h5]
        simp [htr]
      have ht1 : 0 ≤ t ∧ t ≤ 255 := hr.byt t (by rw [htr]; simp)
      obtain ⟨ht2, ht3⟩ := ht1
      obtain ⟨hrl1, hrl2⟩ := rl_bound hr.byt
      have hbad := Lib.hid (decS_bad d kid hne)
      have HR := Lib.hid hrun
      have HB := Lib.hid hbuilt
      have HRR := Lib.hid hr
      clear hrun hbuilt hr hcell htr
      have hbb : b < wr.heap.size := World.block_lt_of_cell? _ _ g0
      by_cases htag : tagB t = false
      · rw [if_pos htag] at hhd
        have HB2 := Lib.hid (HR.out.symm.trans (hbad.out (by rw [hhd]; decide) acc))
        rw [hhd] at HB2
        rw [htag] at hti
        generalize rest.length = m at *
        have hmi : (0 : Int) < m := by omega
        clear hbad hhd hrl htag hrl1 hrl2 HR HB HRR HR0 HH HK
        go_wp2_with (first
          | (go_at_call 81; refine (hti.out _).mono ?_; rintro e w1 ⟨rfl, rfl⟩))
        go_step3
        refine ⟨rfl, ?_⟩
        go_wp2
        simp only [Exit.jump]
        go_ret2
        rw [HB2.out]
        exact RetKE.nil (nodesRk R) (nd_nil R) _ (hx.trans ((Ext.refl _).alloc _))
      have htag2 : tagB t = true := by simpa using htag
      rw [if_neg htag] at hhd
      rw [htag2] at hti
      by_cases hdp : 6 < d
      · rw [if_pos hdp] at hhd
        have HB2 := Lib.hid (HR.out.symm.trans (hbad.out (by rw [hhd]; decide) acc))
        rw [hhd] at HB2
        generalize rest.length = m at *
        have hmi : (0 : Int) < m := by omega
        clear hbad hhd hrl htag htag2 hrl1 hrl2 HR HB HRR HR0 HH HK
        go_wp2_with (first
          | (go_at_call 81; refine (hti.out _).mono ?_; rintro e w1 ⟨rfl, rfl⟩))
        go_step3
        refine ⟨rfl, ?_⟩
        go_wp2
        simp only [Exit.jump]
        go_ret2
        rw [HB2.out]
        exact RetKE.nil (nodesRk R) (nd_nil R) _ (hx.trans ((Ext.refl _).alloc _))
      rw [if_neg hdp] at hhd
      have hd6 : d ≤ 6 := by omega
      by_cases hle : (rl rest).2.2 ≠ 0
      · rw [if_pos hle] at hhd
        have HB2 := Lib.hid (HR.out.symm.trans (hbad.out (by rw [hhd]; exact hle) acc))
        rw [hhd] at HB2
        generalize rl rest = H at *
        obtain ⟨f, n, er⟩ := H
        simp only at *
        have her : (er != 0) = true := by simpa using hle
        generalize rest.length = m at *
        have hmi : (0 : Int) < m := by omega
        clear hbad hhd htag htag2 HR HB HRR HR0 HH HK
        go_wp2_with (first
          | (go_at_call 81; refine (hti.out _).mono ?_; rintro e w1 ⟨rfl, rfl⟩)
          | (go_at_call 82; refine (hrl.out _ ((Ext.refl _).alloc _)).mono ?_; rintro e w2 ⟨rfl, he2⟩))
        go_step3
        refine ⟨rfl, ?_⟩
        go_wp2
        simp only [Exit.jump]
        go_ret2
        rw [HB2.out]
        exact RetKE.nil (nodesRk R) (nd_nil R) _ (hx.trans (((Ext.refl _).alloc _).trans he2))
      rw [if_neg hle] at hhd
      have hle0 : (rl rest).2.2 = 0 := Classical.not_not.1 hle
      by_cases hsh : rest.length < (rl rest).1 + (rl rest).2.1
      · rw [if_pos hsh] at hhd
        have HB2 := Lib.hid (HR.out.symm.trans (hbad.out (by rw [hhd]; decide) acc))
        rw [hhd] at HB2
        generalize rl rest = H at *
        obtain ⟨f, n, er⟩ := H
        simp only at *
        subst hle0
        generalize rest.length = m at *
        have hmi : (0 : Int) < m := by omega
        have hsi : (m : Int) - f < n := by omega
        clear hbad hhd htag htag2 HR HB HRR HR0 HH HK
        go_wp2_with (first
          | (go_at_call 81; refine (hti.out _).mono ?_; rintro e w1 ⟨rfl, rfl⟩)
          | (go_at_call 82; refine (hrl.out _ ((Ext.refl _).alloc _)).mono ?_; rintro e w2 ⟨rfl, he2⟩))
        go_step3
        refine ⟨rfl, ?_⟩
        go_wp2
        simp only [Exit.jump]
        go_ret2
        rw [HB2.out]
        exact RetKE.nil (nodesRk R) (nd_nil R) _ (hx.trans (((Ext.refl _).alloc _).trans he2))
      rw [if_neg hsh] at hhd
      have hgood := hd_ok (d := d) hne (by rw [hhd])
      have hstep := Lib.hid (decS_step d kid hne (by rw [hhd]))
      have hkbad := Lib.hid (decS_kid d kid hne (by rw [hhd]))
      rw [hhd] at hgood hstep hkbad
      obtain ⟨h2f, hfn, -, -, -, -, -, -⟩ := hgood
      generalize hrr : rl rest = H at *
      obtain ⟨f, n, er⟩ := H
      simp only at *
      subst hle0
      have HSUB := Lib.hid (fun (w1 : World) (he : Ext wr w1) => (HRR.out.ext he).cut f n)
      have HTAIL : Hid (RB Any w (.slice (cutA b off rc (f + n)) (rest.length - (f + n)) (rc - (f + n))) (rest.drop (f + n))) := by
        have h1 := HR0.out.cut (f + n) (rest.length - (f + n)) rc (rc - (f + n)) (by omega) (by omega) (by omega) (by omega)
        rwa [List.take_of_length_le (by simp)] at h1
      have hnp := Lib.hid (nestedP_any t)
      have hkc := Lib.hid (fun w1 kv => HK.out hd6 w1 kv ((rest.drop f).take n) (by simp; omega))
      obtain ⟨flat, hown, hpush⟩ := HB.out.grow
      have HO := Lib.hid hown
      have HP := Lib.hid hpush
      have hVr : ∀ g, With (Low w) u6 g → g < wr.heap.size := With.lt (fun g hg => hx.lt hg) hown
      have HVR := Lib.hid hVr
      have HXB := Lib.hid ((HRR.out.byt.drop f).take n)
      have hxl : ((rest.drop f).take n).length = n := by simp; omega
      have hclone := Lib.hid (fun w1 kv (h : RB Any w1 kv ((rest.drop f).take n)) => clone_any _ kv w1 h (by omega))
      generalize hX : (rest.drop f).take n = X at *
      generalize hT : rest.drop (f + n) = T at *
      have hTl : T.length = rest.length - (f + n) := by rw [← hT]; simp
      have HXL := Lib.hid hxl
      have HTL := Lib.hid hTl
      generalize hnb : nestB t = nb at *
      generalize hkX : kid X = Y at *
      obtain ⟨ks, ke⟩ := Y
      simp only at *
      generalize hrlen : rest.length = m at *
      generalize hal : acc.length = al at *
      generalize hbl : bs.length = bl at *
      have HAL := Lib.hid hal
      clear hown hpush hVr hbad hX hT hTl hxl hnb hkX hrlen hne hal hbl HH HK hhd hle htag htag2 HRR HR0 HB hrr
      have hmi : (0 : Int) < m := by omega
      have hfc : f + n ≤ rc := by omega
      have hsi : ¬ (m : Int) - f < n := by omega
      cases nb
      · -- a primitive node
        go_wp2_with (first
          | (go_at_call 81; refine (hti.out _).mono ?_; rintro e w1 ⟨rfl, rfl⟩)
          | (go_at_call 82; refine (hrl.out _ ((Ext.refl _).alloc _)).mono ?_; rintro e w1 ⟨rfl, he1⟩)
          | (go_at_call 83; refine (hnp.out _).mono ?_; rintro e w2 ⟨rfl, rfl⟩)
          | (go_at_call 84; refine (hclone.out _ _ (HSUB.out _ (((Ext.refl _).alloc _).trans he1) (f + n) n (by omega) (by omega) (by omega) (by omega))).mono ?_; (rintro e w2 ⟨A2, c2, he, EX2, hrb2⟩; rw [HXL.out] at he hrb2; subst he; have EXX := he1.trans EX2; have EX3 : Ext wr (w2.setCell ⟨wr.heap.size, 1, none⟩ (.slice A2 n c2)) := (((Ext.refl wr).alloc _).trans EXX).setCell (Nat.le_refl _) _; have q3 : w2.frozen? ⟨wr.heap.size, 1, none⟩ = false := (EXX.frozen (p := ⟨wr.heap.size, 1, none⟩) (by simp)).trans (by simp); have q0 := EXX.cell (p := ⟨wr.heap.size, 0, none⟩) (v := .int .i64 t) (by simp); have q1 := EXX.cell (p := ⟨wr.heap.size, 1, none⟩) (v := .slice none 0 0) (by simp); have q2 := EXX.cell (p := ⟨wr.heap.size, 2, none⟩) (v := .slice none 0 0) (by simp)))
          | (at_builtin; refine wpList_append_src _ rfl (.tmp 72) (.tmp 74) _ rfl w.heap.size 45 i0 _ 3 56 Try.underlying32 hi0 hz0 hz1 hz2 rfl (by omega) u6 al flat rfl (own_ext HO.out (EX3.alloc _)) _ 1 1 _ rfl (Src.litB _ #[.int .i64 t, (.slice A2 n c2), (.slice none 0 0)] _ 3 _ (by simp) rfl (by simp [Value.oneCell'])) (by unfold maxLen; omega) (by omega) (Nat.le_trans (hx.trans EX3).size (by simp)) ?_; intro A3 c3 w3 hown3 hg3 hat3))
        have hx3 : Ext w w3 := (hx.trans (EX3.alloc _)).grown hg3 (fun g hg => (HO.out.lt g hg).1)
        have hnode : nodeRep R (With (Low w) u6) ((w2.setCell ⟨wr.heap.size, 1, none⟩ (.slice A2 n c2)).alloc (.cells #[.int .i64 t, (.slice A2 n c2), (.slice none 0 0)] 45)) (t, X, []) [.int .i64 t, (.slice A2 n c2), (.slice none 0 0)] := by
          refine ⟨_, _, rfl, ?_, hRn _ _⟩
          have h5 := hrb2 (fun k => k < wr.heap.size + 1) (fun k hk => Nat.lt_of_lt_of_le hk (by have := he1.size; simpa using this))
          exact ((h5.agree (Agree.setCell (p := ⟨wr.heap.size, 1, none⟩) (Nat.lt_succ_self _) _)).ext ((Ext.refl _).alloc _)).weak (fun k _ hk => Nat.lt_succ_of_lt (HVR.out k hk))
        have hB3 := HP.out (t, X, []) [.int .i64 t, (.slice A2 n c2), (.slice none 0 0)] _ w3 (.slice A3 (al + 1) c3) (EX3.alloc _) rfl hnode hown3 hg3 hat3
        have hrun3 := hstep.out (fun h => by cases h) acc
        rw [HR.out] at hrun3
        refine ⟨⟨T, acc ++ [(t, X, [])], HTAIL.out, ?_, hB3, hx3, ?_⟩, ?_⟩
        · rw [List.length_append, HAL.out, HTL.out]; simp; omega
        · rw [hrun3]; simp
        · simp only [lenOf]; omega
      · by_cases hke : ke = 0
        · subst hke
          go_wp2_with (first
            | (go_at_call 81; refine (hti.out _).mono ?_; rintro e w1 ⟨rfl, rfl⟩)
            | (go_at_call 82; refine (hrl.out _ ((Ext.refl _).alloc _)).mono ?_; rintro e w1 ⟨rfl, he1⟩)
            | (go_at_call 83; refine (hnp.out _).mono ?_; rintro e w2 ⟨rfl, rfl⟩)
            | (go_at_call 62; refine (hkc.out _ _ (HSUB.out _ (((Ext.refl _).alloc _).trans he1) (f + n) n (by omega) (by omega) (by omega) (by omega))).mono ?_; (rintro e w2 ⟨A2, c2, rfl, EX2, hrk2⟩; have EXX := he1.trans EX2; have EX3 : Ext wr (w2.setCell ⟨wr.heap.size, 2, none⟩ (.slice A2 ks.length c2)) := (((Ext.refl wr).alloc _).trans EXX).setCell (Nat.le_refl _) _; have q3 : w2.frozen? ⟨wr.heap.size, 2, none⟩ = false := (EXX.frozen (p := ⟨wr.heap.size, 2, none⟩) (by simp)).trans (by simp); have q0 := EXX.cell (p := ⟨wr.heap.size, 0, none⟩) (v := .int .i64 t) (by simp); have q1 := EXX.cell (p := ⟨wr.heap.size, 1, none⟩) (v := .slice none 0 0) (by simp); have q2 := EXX.cell (p := ⟨wr.heap.size, 2, none⟩) (v := .slice none 0 0) (by simp)))
            | (at_builtin; refine wpList_append_src _ rfl (.tmp 72) (.tmp 74) _ rfl w.heap.size 45 i0 _ 3 56 Try.underlying32 hi0 hz0 hz1 hz2 rfl (by omega) u6 al flat rfl (own_ext HO.out (EX3.alloc _)) _ 1 1 _ rfl (Src.litB _ #[.int .i64 t, (.slice none 0 0), (.slice A2 ks.length c2)] _ 3 _ (by simp) rfl (by simp [Value.oneCell'])) (by unfold maxLen; omega) (by omega) (Nat.le_trans (hx.trans EX3).size (by simp)) ?_; intro A3 c3 w3 hown3 hg3 hat3))
          have hx3 : Ext w w3 := (hx.trans (EX3.alloc _)).grown hg3 (fun g hg => (HO.out.lt g hg).1)
          have hnode : nodeRep R (With (Low w) u6) ((w2.setCell ⟨wr.heap.size, 2, none⟩ (.slice A2 ks.length c2)).alloc (.cells #[.int .i64 t, (.slice none 0 0), (.slice A2 ks.length c2)] 45)) (t, [], ks) [.int .i64 t, (.slice none 0 0), (.slice A2 ks.length c2)] := by
            refine ⟨_, _, rfl, RB.nil _ _, ?_⟩
            have h5 := hrk2 (fun k => k < wr.heap.size + 1) (fun k hk => Nat.lt_of_lt_of_le hk (by have := he1.size; simpa using this))
            exact R.weak (R.ext (R.agree h5 (Agree.setCell (p := ⟨wr.heap.size, 2, none⟩) (Nat.lt_succ_self _) _)) ((Ext.refl _).alloc _)) (fun k _ hk => Nat.lt_succ_of_lt (HVR.out k hk))
          have hB3 := HP.out (t, [], ks) [.int .i64 t, (.slice none 0 0), (.slice A2 ks.length c2)] _ w3 (.slice A3 (al + 1) c3) (EX3.alloc _) rfl hnode hown3 hg3 hat3
          have hrun3 := hstep.out (fun _ => by first | rfl | trivial) acc
          rw [HR.out] at hrun3
          refine ⟨⟨T, acc ++ [(t, [], ks)], HTAIL.out, ?_, hB3, hx3, ?_⟩, ?_⟩
          · rw [List.length_append, HAL.out, HTL.out]; simp; omega
          · rw [hrun3]; simp
          · simp only [lenOf]; omega
        · have hke2 : (ke != 0) = true := by simpa using hke
          have HKB := Lib.hid (HR.out.symm.trans (hkbad.out rfl hke acc))
          clear hkbad hstep
          go_wp2_with (first
            | (go_at_call 81; refine (hti.out _).mono ?_; rintro e w1 ⟨rfl, rfl⟩)
            | (go_at_call 82; refine (hrl.out _ ((Ext.refl _).alloc _)).mono ?_; rintro e w1 ⟨rfl, he1⟩)
            | (go_at_call 83; refine (hnp.out _).mono ?_; rintro e w2 ⟨rfl, rfl⟩)
            | (go_at_call 62; refine (hkc.out _ _ (HSUB.out _ (((Ext.refl _).alloc _).trans he1) (f + n) n (by omega) (by omega) (by omega) (by omega))).mono ?_; (rintro e w2 ⟨A2, c2, rfl, EX2, hrk2⟩; have EXX := he1.trans EX2; have q3 : w2.frozen? ⟨wr.heap.size, 2, none⟩ = false := (EXX.frozen (p := ⟨wr.heap.size, 2, none⟩) (by simp)).trans (by simp); have q0 := EXX.cell (p := ⟨wr.heap.size, 0, none⟩) (v := .int .i64 t) (by simp); have q1 := EXX.cell (p := ⟨wr.heap.size, 1, none⟩) (v := .slice none 0 0) (by simp); have q2 := EXX.cell (p := ⟨wr.heap.size, 2, none⟩) (v := .slice none 0 0) (by simp))))
          go_step3
          refine ⟨rfl, ?_⟩
          go_wp2
          simp only [Exit.jump]
          go_ret2
          rw [HKB.out]
          exact RetKE.nil (nodesRk R) (nd_nil R) ke (hx.trans ((((Ext.refl wr).alloc _).trans EXX).setCell (Nat.le_refl _) _))
theorem read_any : ∀ (n : Nat) (d : Int) (bs : List Int) (v : Value) (w : World), 7 ≤ n + d → 0 ≤ d → RB Any w v bs → bs.length ≤ 1000000 → Calls Try.prog 62 #[v, .int .i64 d] w (RetKE (RkN n) w (decN n d bs))
  | 0, d, bs, v, w, h7, h0, h, hl => by
    refine (read_step emptyRk (fun _ => ([], 0)) d bs v w h hl h0 (fun V w => rk_nil 0 V w) (fun h6 => by omega)).mono fun e w' ⟨a, c, he, hx, hr⟩ => ?_
    have e1 : decS (α := Empty) d (fun _ => ([], 0)) bs = ([], (decN 0 d bs).2) := by
      have k := runD_zero (α := Empty) d (fun _ => ([], 0)) bs
      by_cases hb : bs = []
      · subst hb; rfl
      · have h1 : (hd bs d).2.2.2 ≠ 0 := fun h1 => by have := (hd_ok hb h1).2.2.1; omega
        rw [← k, decS_bad d _ hb h1]
        simp [decN, hb]
    rw [e1] at he hr
    exact ⟨a, c, he, hx, fun V hV => (by
      obtain ⟨a', c', hv, h1, h2, _⟩ := (show RS V 3 _ w' _ [] from hr V hV)
      exact ⟨a', c', hv, h1, h2, fun h => absurd rfl h⟩ : RS V 3 (fun _ (_ : Empty) _ => True) w' _ [])⟩
  | n + 1, d, bs, v, w, h7, h0, h, hl => read_step (RkN n) (decN n (d + 1)) d bs v w h hl h0 (fun V w => rk_nil n V w) (fun h6 w1 kv kb hkl hkb => read_any n (d + 1) kb kv w1 (by omega) (by omega) hkb hkl)
theorem decodeP_any (n : Nat) (bs : List Int) (v : Value) (w : World) (hn : 7 ≤ n) (h : RB Any w v bs) : Calls Try.prog 44 #[v] w (RetKE (RkN n) w (decTop n bs)) := by
  obtain ⟨a, c, rfl, _, _⟩ := h.form
  by_cases hl : 1500 < bs.length
  · have e : decTop n bs = ([], 4) := by unfold decTop; rw [if_pos hl]
    rw [e]
    generalize bs.length = m at *
    have hm : (1500 : Int) < m := by omega
    clear e
    go_enter Try.func44, Try.ntmps44
    go_wp2
    go_ret2
    exact ⟨none, 0, rfl, Ext.refl _, fun V _ => rk_nil n V _⟩
  · have e : decTop n bs = decN n 0 bs := by unfold decTop; rw [if_neg hl]
    rw [e]
    have hc := Lib.hid (read_any n 0 bs _ w (by omega) (by omega) h (by omega))
    generalize decN n 0 bs = z at *
    generalize bs.length = m at *
    have hm : (m : Int) ≤ 1500 := by omega
    clear e
    go_enter Try.func44, Try.ntmps44
    go_wp2_with (go_at_call 62; refine hc.out.mono ?_; rintro e w1 ⟨a1, c1, rfl, he1, hr1⟩)
    go_ret2
    exact ⟨a1, c1, rfl, he1, hr1⟩
end Go.Proofs.Ytjaofbfppnmdjaa
