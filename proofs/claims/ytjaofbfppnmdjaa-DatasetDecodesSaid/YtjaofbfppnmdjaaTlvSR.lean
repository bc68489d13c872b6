/- The contract of Same of the reference: layer 10. -/
import Derived.Test.YtjaofbfppnmdjaaTlvS
namespace Go.Proofs.Ytjaofbfppnmdjaa
open Go.RowKit
attribute [local go_sem ↓] Go.wp_at_zero Go.wp_at_succ

set_option maxRecDepth 100000 in
set_option maxHeartbeats 4000000 in
theorem sameR_step {α : Type} (R : Rk α) (sk : List α → List α → Bool) (a b : List (NodeOf α)) (va vb : Value) (w : World) (ha : (nodesRk R).rk Any w va a) (hb : (nodesRk R).rk Any w vb b)
    (hk : ∀ x ∈ a, ∀ y ∈ b, ∀ w1 v1 v2, R.rk Any w1 v1 x.2.2 → R.rk Any w1 v2 y.2.2 → Calls Try.prog 22 #[v1, v2] w1 fun e w' => e = .returned (.bool (sk x.2.2 y.2.2)) ∧ Ext w1 w') :
    Calls Try.prog 22 #[va, vb] w fun e w' => e = .returned (.bool (sameS sk a b)) ∧ Ext w w' := by
  obtain ⟨aa, ac, rfl, hc1, hc2⟩ := (nodesRk R).form ha
  obtain ⟨ba, bc, rfl, hc3, hc4⟩ := (nodesRk R).form hb
  have hmax : a.length ≤ 9223372036854775807 := by unfold maxLen at hc2; omega
  have HA := Lib.hid ha
  have HB := Lib.hid hb
  have HK := Lib.hid hk
  clear ha hb hk hc1 hc2 hc3 hc4
  generalize hna : a.length = na at *
  generalize hnb : b.length = nb at *
  have HNA := Lib.hid hna
  have HNB := Lib.hid hnb
  clear hna hnb
  have HL := Lib.hid (sameS_len sk a b)
  have HI := Lib.hid (sameS_iff sk a b)
  have HF := Lib.hid (sameS_at sk a b)
  by_cases hl : na = nb
  · subst hl
    go_enter Try.func22, Try.ntmps22
    go_wp2
    go_loopw [5] (fun i wr => ∃ (k : Nat), k ≤ na ∧ i = .int .i64 k ∧ (∀ i (h1 : i < a.length) (h2 : i < b.length), i < k → sameE sk a[i] b[i] = true) ∧ Ext w wr) (fun i _ => na - (intOf i).toNat)
    case atStart => exact ⟨0, Nat.zero_le _, rfl, fun i _ _ h => by omega, Ext.refl _⟩
    case round =>
      obtain ⟨k, hk1, rfl, hall, hx⟩ := hrel
      have HALL := Lib.hid hall
      clear hall
      by_cases hlt : k < na
      · have hka : k < a.length := by rw [HNA.out]; exact hlt
        have hkb : k < b.length := by rw [HNB.out]; exact hlt
        obtain ⟨b1, o1, c1, da1, dc1, ka1, kc1, hv1, _, _, g0, g1, g2, hd1, hk1'⟩ := node_at ((nodesRk R).ext HA.out hx) hka
        obtain ⟨b2, o2, c2, da2, dc2, ka2, kc2, hv2, _, _, f0, f1, f2, hd2, hk2'⟩ := node_at ((nodesRk R).ext HB.out hx) hkb
        have HC := Lib.hid (fun w1 (h : Ext wr w1) => HK.out a[k] (List.getElem_mem hka) b[k] (List.getElem_mem hkb) w1 _ _ (R.ext hk1' h) (R.ext hk2' h))
        have HF2 := Lib.hid (HF.out k hka hkb)
        have HS : Hid (∀ i (h1 : i < a.length) (h2 : i < b.length), i < k + 1 → (i < k ∨ i = k)) := fun i _ _ h => by omega
        have HR := Lib.hid (show sameE sk a[k] b[k] = (decide (a[k].1 = b[k].1) && decide (a[k].2.1 = b[k].2.1) && sk a[k].2.2 b[k].2.2) from rfl)
        have HQ := Lib.hid (str_eq hd1.byt hd2.byt)
        have hcv1 : ∀ w1, Ext wr w1 → (convert 25 9 (.slice da1 a[k].2.1.length dc1)).run Try.prog w1 = .ok (.string (strOfNums a[k].2.1)) w1 := fun w1 h => (hd1.ext h).conv (P := Try.prog) 25 9 5 Try.underlying25 Try.underlying5 Try.underlying9
        have hcv2 : ∀ w1, Ext wr w1 → (convert 25 9 (.slice da2 b[k].2.1.length dc2)).run Try.prog w1 = .ok (.string (strOfNums b[k].2.1)) w1 := fun w1 h => (hd2.ext h).conv (P := Try.prog) 25 9 5 Try.underlying25 Try.underlying5 Try.underlying9
        have HC1 := Lib.hid hcv1
        have HC2 := Lib.hid hcv2
        rw [HNA.out] at hv1
        rw [HNB.out] at hv2
        simp only [Value.slice.injEq] at hv1 hv2
        obtain ⟨rfl, -, rfl⟩ := hv1
        obtain ⟨rfl, -, rfl⟩ := hv2
        clear hd1 hk1' hd2 hk2' HK hcv1 hcv2
        generalize hE : sameE sk a[k] b[k] = E at *
        have HE := Lib.hid hE
        clear hE
        generalize a[k].1 = t1 at *
        generalize b[k].1 = t2 at *
        generalize sk a[k].2.2 b[k].2.2 = r at *
        generalize strOfNums a[k].2.1 = s1 at *
        generalize strOfNums b[k].2.1 = s2 at *
        generalize decide (a[k].2.1 = b[k].2.1) = q at *
        generalize a[k].2.1.length = n1 at *
        generalize b[k].2.1.length = n2 at *
        generalize a[k].2.2.length = n3 at *
        generalize b[k].2.2.length = n4 at *
        have hki : (k : Int) < na := by omega
        have hk0 : (0 : Int) ≤ k := by omega
        have q1 := fun n => HC1.out (wr.drewN n) ((Ext.refl _).drewN n)
        have q2 := fun n => HC2.out (wr.drewN n) ((Ext.refl _).drewN n)
        by_cases ht : t1 = t2
        · subst ht
          cases q
          · have hq : ((s1.toList == s2.toList)) = false := HQ.out
            have hq2 : ((s1.toList != s2.toList)) = true := by simp [bne, hq]
            go_wp2
            go_quiet (fail)
            go_wp2
            go_ret
            exact ⟨ret_bool (HF2.out (by rw [HR.out]; simp)).symm, hx.trans ((Ext.refl _).drewN _)⟩
          · have hq : ((s1.toList == s2.toList)) = true := HQ.out
            have hq2 : ((s1.toList != s2.toList)) = false := by simp [bne, hq]
            have KEEP := Lib.hid (fun w1 (h : Ext wr w1) => show w1.cell? ⟨b1, o1 + k * 3, none⟩ = some (.int .i64 t1) ∧ w1.cell? ⟨b2, o2 + k * 3, none⟩ = some (.int .i64 t1) ∧ w1.cell? ⟨b1, o1 + k * 3 + 1, none⟩ = some (.slice da1 n1 dc1) ∧ w1.cell? ⟨b2, o2 + k * 3 + 1, none⟩ = some (.slice da2 n2 dc2) ∧ w1.cell? ⟨b1, o1 + k * 3 + 2, none⟩ = some (.slice ka1 n3 kc1) ∧ w1.cell? ⟨b2, o2 + k * 3 + 2, none⟩ = some (.slice ka2 n4 kc2) ∧ (convert 25 9 (.slice da1 n1 dc1)).run Try.prog w1 = .ok (.string s1) w1 ∧ (convert 25 9 (.slice da2 n2 dc2)).run Try.prog w1 = .ok (.string s2) w1 from ⟨h.cell g0, h.cell f0, h.cell g1, h.cell f1, h.cell g2, h.cell f2, HC1.out w1 h, HC2.out w1 h⟩)
            cases r
            · go_wp2
              go_region_held3 (fun w1 => w1.cell? ⟨b1, o1 + k * 3, none⟩ = some (.int .i64 t1) ∧ w1.cell? ⟨b2, o2 + k * 3, none⟩ = some (.int .i64 t1) ∧ w1.cell? ⟨b1, o1 + k * 3 + 1, none⟩ = some (.slice da1 n1 dc1) ∧ w1.cell? ⟨b2, o2 + k * 3 + 1, none⟩ = some (.slice da2 n2 dc2) ∧ w1.cell? ⟨b1, o1 + k * 3 + 2, none⟩ = some (.slice ka1 n3 kc1) ∧ w1.cell? ⟨b2, o2 + k * 3 + 2, none⟩ = some (.slice ka2 n4 kc2) ∧ (convert 25 9 (.slice da1 n1 dc1)).run Try.prog w1 = .ok (.string s1) w1 ∧ (convert 25 9 (.slice da2 n2 dc2)).run Try.prog w1 = .ok (.string s2) w1)
                (first | exact KEEP.out _ (Ext.refl _).drew | exact KEEP.out _ ((Ext.refl _).drew.trans he1))
                (first | (go_at_call 22; refine (HC.out _ (Ext.refl _).drew).mono ?_; rintro e w1 ⟨rfl, he1⟩))
              go_wp2
              go_ret
              exact ⟨ret_bool (HF2.out (by rw [HR.out]; simp)).symm, hx.trans ((Ext.refl _).drew.trans he1)⟩
            · go_wp2
              go_region_held3 (fun w1 => w1.cell? ⟨b1, o1 + k * 3, none⟩ = some (.int .i64 t1) ∧ w1.cell? ⟨b2, o2 + k * 3, none⟩ = some (.int .i64 t1) ∧ w1.cell? ⟨b1, o1 + k * 3 + 1, none⟩ = some (.slice da1 n1 dc1) ∧ w1.cell? ⟨b2, o2 + k * 3 + 1, none⟩ = some (.slice da2 n2 dc2) ∧ w1.cell? ⟨b1, o1 + k * 3 + 2, none⟩ = some (.slice ka1 n3 kc1) ∧ w1.cell? ⟨b2, o2 + k * 3 + 2, none⟩ = some (.slice ka2 n4 kc2) ∧ (convert 25 9 (.slice da1 n1 dc1)).run Try.prog w1 = .ok (.string s1) w1 ∧ (convert 25 9 (.slice da2 n2 dc2)).run Try.prog w1 = .ok (.string s2) w1)
                (first | exact KEEP.out _ (Ext.refl _).drew | exact KEEP.out _ ((Ext.refl _).drew.trans he1))
                (first | (go_at_call 22; refine (HC.out _ (Ext.refl _).drew).mono ?_; rintro e w1 ⟨rfl, he1⟩))
              go_wp2
              go_roundw
              case rel => exact ⟨k + 1, by omega, by go_num, fun i h1 h2 hi => by
                rcases HS.out i h1 h2 hi with h | h
                · exact HALL.out i h1 h2 h
                · subst h; rw [HE.out, HR.out]; simp, hx.trans ((Ext.refl _).drew.trans he1)⟩
              case measure => simp [intOf]; omega
        · have ht2 : (t1 != t2) = true := by simp [ht]
          have HT := Lib.hid ht
          clear ht
          go_wp2
          go_quiet (fail)
          go_wp2
          go_ret
          exact ⟨ret_bool (HF2.out (by rw [HR.out]; simp [HT.out])).symm, hx.trans ((Ext.refl _).drewN _)⟩
      · go_wp2
        go_ret
        refine ⟨ret_bool ?_, hx⟩
        refine (HI.out.2 ⟨by rw [HNA.out, HNB.out], fun i h1 h2 => HALL.out i h1 h2 (by have := HNA.out; omega)⟩).symm
  · have hl2 : ((na : Int) != nb) = true := by simp; omega
    go_enter Try.func22, Try.ntmps22
    go_wp2
    go_ret
    exact ⟨ret_bool (HL.out (by rw [HNA.out, HNB.out]; exact hl)).symm, Ext.refl _⟩
theorem sameR_any : ∀ (n : Nat) (a b : List (Nd n)) (va vb : Value) (w : World), (RkN n).rk Any w va a → (RkN n).rk Any w vb b →
    Calls Try.prog 22 #[va, vb] w fun e w' => e = .returned (.bool (sameN n a b)) ∧ Ext w w'
  | 0, a, b, va, vb, w, ha, hb => by
    have h1 := nd_zero a
    have h2 := nd_zero b
    subst h1 h2
    exact sameR_step (α := Empty) emptyRk (fun _ _ => true) [] [] va vb w (rkn_zero ha) (rkn_zero hb) (fun x hx => by cases hx)
  | n + 1, a, b, va, vb, w, ha, hb => sameR_step (RkN n) (sameN n) a b va vb w ha hb (fun x _ y _ w1 v1 v2 h1 h2 => sameR_any n x.2.2 y.2.2 v1 v2 w1 h1 h2)
end Go.Proofs.Ytjaofbfppnmdjaa
