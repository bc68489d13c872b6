/- The walk of the statement MessageNodes. -/
import Derived.Test.YtjaofbfppnmdjaaMsgNN
import Derived.Test.YtjaofbfppnmdjaaMsgK
import Derived.Test.YtjaofbfppnmdjaaDecZZ
import Derived.Test.YtjaofbfppnmdjaaDatS
namespace Go.Proofs.Ytjaofbfppnmdjaa
open Go.RowKit
attribute [local go_sem ↓] Go.wp_at_zero Go.wp_at_succ

theorem large_nod {l : List Val} (h : largeB l = false) : l.length ≤ 60 := by
  unfold largeB at h
  simp only [Bool.or_eq_false_iff, decide_eq_false_iff_not] at h
  omega
set_option maxRecDepth 100000 in
set_option maxHeartbeats 16000000 in
theorem nodes_walk (m : Msg) (v : Value) (w : World) (hv : RF Any 6 valE w v m.vals) (hin : ∀ x ∈ m.vals, inN x) : Calls Try.prog 13 #[msgA m v] w fun e w' => e = .returned (.bool true) ∧ Ext w w' := by
  have HK := Lib.hid (fun w1 => known12_any w1)
  have HLG := Lib.hid (fun w1 (he : Ext w w1) => large11_any m.vals v w1 (hv.ext he))
  have HE1 := Lib.hid (fun w1 (he : Ext w w1) => encMP_any m v w1 (hv.ext he))
  cases hlg : largeB m.vals
  · have hle := large_nod hlg
    have HAL := Lib.hid (fun w1 (he : Ext w w1) => all11_any m.vals v w1 (hv.ext he) (by omega))
    have HAX := Lib.hid (fun w1 u (h : RF Any 6 valE w1 u m.vals) => all11_any m.vals u w1 h (by omega))
    have HSM := Lib.hid (fun w1 va vb (h : RF Any 6 valE w1 va m.vals) (h' : RF Any 6 valE w1 vb m.vals) => sameVR_any m.vals m.vals va vb w1 h h')
    rw [decide_eq_true rfl] at HSM
    obtain ⟨a, c, rfl, hc1, hc2⟩ := hv.form
    rw [hlg] at HLG
    by_cases hee : encME m = 0
    · have hch := encME_chk m hee
      obtain ⟨_, _, hl24, hve⟩ := chkM_zero m hch
      have hvb := vals_back 4 m.vals hve hin
      have hkl := Lib.hid (kidsK_len 4 m)
      have hk7 := Lib.hid (kidsK_last 4 m)
      have HDP := Lib.hid (fun w1 u (h : RB Any w1 u (encMB m)) => decodeP_any 7 (encMB m) u w1 (by omega) h)
      rw [msg_dec m hch hee] at HDP
      have HDQ : Hid (∀ w1 u, RB Any w1 u (encMB m) → Calls Try.prog 44 #[u] w1 fun e w' => ∃ a c, e = .returned (.tuple #[.slice a 1 c, .int .i64 0]) ∧ Ext w1 w' ∧ (RkN 7).rk Any w' (.slice a 1 c) [nodeK 4 m]) := fun w1 u h =>
        (HDP.out w1 u h).mono fun e w' ⟨a, c, he, hx, hr⟩ => ⟨a, c, he, hx, hr Any (fun _ h => h.elim)⟩
      clear HDP
      have HVP : Hid (∀ (V : Nat → Prop) u w1, (nodesRk (RkN 4)).rk V w1 u (m.vals.map (nodeV 4)) → Calls Try.prog 34 #[u] w1 (RetVE w1 m.vals 0)) := fun V u w1 h => by
        have h1 := valuesP_any (RkN 4) (m.vals.map (nodeV 4)) u w1 h (by rw [List.length_map]; omega)
        have e1 : valsV (m.vals.map (nodeV 4)) = m.vals := by unfold valsV; rw [if_pos hvb.1]; exact hvb.2
        rw [hvb.1, e1] at h1
        exact h1
      have HND : Hid (∀ (w1 : World) (u : Value), (RkN 7).rk Any w1 u [nodeK 4 m] → ∃ b off c b2 off2 c2 ka kc, u = .slice (some ⟨b, off, none⟩) 1 c ∧ w1.cell? ⟨b, off, none⟩ = some (.int .i64 97) ∧ w1.cell? ⟨b, off + 2, none⟩ = some (.slice (some ⟨b2, off2, none⟩) 8 c2) ∧ w1.cell? ⟨b2, off2 + 23, none⟩ = some (.slice ka m.vals.length kc) ∧ (nodesRk (RkN 4)).rk Any w1 (.slice ka m.vals.length kc) (m.vals.map (nodeV 4))) := fun w1 u h => by
        obtain ⟨b, off, c, da, dc, ka, kc, hv, _, _, g0, _, g2, _, hk⟩ := node_at (show (nodesRk (RkN 6)).rk Any w1 u [nodeK 4 m] from h) (i := 0) (by simp)
        have hk' : (nodesRk (RkN 5)).rk Any w1 (.slice ka (kidsK 4 m).length kc) (kidsK 4 m) := hk
        have g2' : w1.cell? ⟨b, off + 0 * 3 + 2, none⟩ = some (.slice ka (kidsK 4 m).length kc) := g2
        rw [hkl.out] at g2'
        obtain ⟨b2, off2, c2, da2, dc2, ka2, kc2, hv2, _, _, _, _, h2, _, hk2⟩ := node_at hk' (i := 7) (by rw [hkl.out]; omega)
        obtain ⟨h7l, h7⟩ := List.getElem?_eq_some_iff.1 hk7.out
        rw [h7] at h2 hk2
        have h2' : w1.cell? ⟨b2, off2 + 7 * 3 + 2, none⟩ = some (.slice ka2 (m.vals.map (nodeV 4)).length kc2) := h2
        have hk2' : (nodesRk (RkN 4)).rk Any w1 (.slice ka2 (m.vals.map (nodeV 4)).length kc2) (m.vals.map (nodeV 4)) := hk2
        rw [List.length_map] at h2' hk2'
        rw [hkl.out, Value.slice.injEq] at hv2
        obtain ⟨rfl, -, rfl⟩ := hv2
        have g0' : w1.cell? ⟨b, off + 0 * 3, none⟩ = some (.int .i64 97) := g0
        refine ⟨b, off, c, b2, off2, kc, ka2, kc2, hv, ?_, ?_, ?_, hk2'⟩
        · simpa using g0'
        · simpa using g2'
        · exact h2'
      rw [hee] at HE1
      generalize nodeK 4 m = nk at *
      generalize encMB m = D at *
      clear hkl hk7 hvb hve hch hee
      generalize hL : m.vals.map (nodeV 4) = L at *
      obtain ⟨m1, m2, m3, m4, m5, m6, m7, m8, m9, vs⟩ := m
      simp only at *
      generalize hn : vs.length = n at *
      have HNN := Lib.hid hn
      clear hn hv hlg hle hl24 hL
      go_enter Try.func13, Try.ntmps13
      go_upto_region 1 with fail
      have BV := Bk.new w #[.int .i64 m1, .int .i64 m2, .int .i64 m3, .int .i64 m4, .int .i64 m5, .int .i64 m6, .int .i64 m7, .bool m8, .int .i64 m9, .slice a n c] 71 w.heap.size rfl
      have X0 : Ext w (w.alloc (.cells #[.int .i64 m1, .int .i64 m2, .int .i64 m3, .int .i64 m4, .int .i64 m5, .int .i64 m6, .int .i64 m7, .bool m8, .int .i64 m9, .slice a n c] 71)) := (Ext.refl w).alloc _
      generalize w.alloc (.cells #[.int .i64 m1, .int .i64 m2, .int .i64 m3, .int .i64 m4, .int .i64 m5, .int .i64 m6, .int .i64 m7, .bool m8, .int .i64 m9, .slice a n c] 71) = W at *
      go_wp2_with fail
      refine (HK.out _).mono ?_
      rintro e w1 ⟨rfl, x1⟩
      have X1 := X0.trans x1
      have B1 := BV.ext x1
      have q1 : ∀ j, w1.cell? ⟨w.heap.size, j, none⟩ = (#[.int .i64 m1, .int .i64 m2, .int .i64 m3, .int .i64 m4, .int .i64 m5, .int .i64 m6, .int .i64 m7, .bool m8, .int .i64 m9, .slice a n c] : Array Value)[j]? := B1.cell
      go_wp2_with fail
      refine (HLG.out _ X1).mono ?_
      rintro e w1' ⟨rfl, rfl⟩
      have q1' := q1
      go_wp2_with fail
      refine (HE1.out _ X1).mono ?_
      rintro e w2 ⟨a2, c2, rfl, x2, r2⟩
      have HD2 := Lib.hid (HDQ.out w2 _ (r2 Any (fun _ h => h.elim)))
      have X2 := X1.trans x2
      have B2 := B1.ext x2
      clear r2 q1 q1' BV B1 x1 x2 X0 X1
      generalize D.length = dl at *
      go_wp2_with fail
      refine HD2.out.mono ?_
      rintro e w3 ⟨a3, c3, rfl, x3, r3⟩
      obtain ⟨b, off, cc, b2, off2, c2', ka, kc, hu, g0, g2, g7, hr⟩ := HND.out w3 _ r3
      simp only [Value.slice.injEq, true_and] at hu
      obtain ⟨rfl, rfl⟩ := hu
      have HV3 := Lib.hid (HVP.out _ _ _ hr)
      have X3 := X2.trans x3
      have B3 := B2.ext x3
      clear r3 x3 B2 X2 hr
      go_wp2_with fail
      refine HV3.out.mono ?_
      rintro e w4 ⟨a4, c4, he, x4, r4⟩
      simp only [HNN.out] at he r4
      subst he
      have HA4 := Lib.hid (fun w1 (he : Ext w4 w1) => HAX.out w1 _ ((r4 Any (fun _ h => h.elim)).ext he))
      have X4 := X3.trans x4
      have B4 := B3.ext x4
      clear r4 x4 B3 g0 g2 g7 HAX
      go_upto_region 12 with fail
      have b4 : ∀ j, w4.cell? ⟨w.heap.size, j, none⟩ = (#[.int .i64 m1, .int .i64 m2, .int .i64 m3, .int .i64 m4, .int .i64 m5, .int .i64 m6, .int .i64 m7, .bool m8, .int .i64 m9, .slice a n c] : Array Value)[j]? := B4.cell
      have HBC : Hid (∀ w', Ext w4 w' → ∀ j, w'.cell? ⟨w.heap.size, j, none⟩ = (#[.int .i64 m1, .int .i64 m2, .int .i64 m3, .int .i64 m4, .int .i64 m5, .int .i64 m6, .int .i64 m7, .bool m8, .int .i64 m9, .slice a n c] : Array Value)[j]?) := fun w' he => (B4.ext he).cell
      clear B4 b4
      go_region_held3 (fun w' => ∀ j, w'.cell? ⟨w.heap.size, j, none⟩ = (#[.int .i64 m1, .int .i64 m2, .int .i64 m3, .int .i64 m4, .int .i64 m5, .int .i64 m6, .int .i64 m7, .bool m8, .int .i64 m9, .slice a n c] : Array Value)[j]?)
        (first | (exact HBC.out _ (by first | (with_reducible exact (Ext.refl w4).drew) | (with_reducible exact D1) | (with_reducible exact D2) | (with_reducible exact D3))) | fail)
        (first
          | (go_at_call 19; (with_reducible refine (HA4.out _ (Ext.refl w4).drew).mono ?_); rintro e y1 ⟨p1, s1, he, t1, u1⟩; have D1 : Ext w4 y1 := (Ext.refl w4).drew.trans t1; simp only [HNN.out] at he u1; subst he; have HR1 := Lib.hid (u1.weak (by omega) (V' := Any) (fun _ _ h => h.elim)); clear u1; clear t1)
          | (go_at_call 19; (with_reducible refine (HAL.out _ (X4.trans D1)).mono ?_); rintro e y2 ⟨p2, s2, he, t2, u2⟩; have D2 : Ext w4 y2 := D1.trans t2; simp only [HNN.out] at he u2; subst he; have HR2 := Lib.hid (And.intro (HR1.out.ext t2) (u2.weak (by omega) (V' := Any) (fun _ _ h => h.elim))); clear u2; clear t2)
          | (go_at_call 28; (with_reducible refine (HSM.out _ _ _ HR2.out.1 HR2.out.2).mono ?_); rintro e y3 ⟨rfl, t3⟩; have D3 : Ext w4 y3 := D2.trans t3; clear t3)
          | fail)
      all_goals
        go_wp2_with fail
        go_ret
        exact ⟨rfl, X4.trans D3⟩
    · rw [encMB_bad m hee] at HE1
      have hee2 : (encME m != 0) = true := by simpa using hee
      generalize encME m = E at *
      clear HAX HSM HAL hlg hle hin hee hv
      obtain ⟨m1, m2, m3, m4, m5, m6, m7, m8, m9, vs⟩ := m
      simp only at *
      generalize vs.length = n at *
      go_enter Try.func13, Try.ntmps13
      go_upto_region 1 with fail
      have BV := Bk.new w #[.int .i64 m1, .int .i64 m2, .int .i64 m3, .int .i64 m4, .int .i64 m5, .int .i64 m6, .int .i64 m7, .bool m8, .int .i64 m9, .slice a n c] 71 w.heap.size rfl
      have X0 : Ext w (w.alloc (.cells #[.int .i64 m1, .int .i64 m2, .int .i64 m3, .int .i64 m4, .int .i64 m5, .int .i64 m6, .int .i64 m7, .bool m8, .int .i64 m9, .slice a n c] 71)) := (Ext.refl w).alloc _
      generalize w.alloc (.cells #[.int .i64 m1, .int .i64 m2, .int .i64 m3, .int .i64 m4, .int .i64 m5, .int .i64 m6, .int .i64 m7, .bool m8, .int .i64 m9, .slice a n c] 71) = W at *
      go_wp2_with fail
      refine (HK.out _).mono ?_
      rintro e w1 ⟨rfl, x1⟩
      have X1 := X0.trans x1
      have B1 := BV.ext x1
      have q1 : ∀ j, w1.cell? ⟨w.heap.size, j, none⟩ = (#[.int .i64 m1, .int .i64 m2, .int .i64 m3, .int .i64 m4, .int .i64 m5, .int .i64 m6, .int .i64 m7, .bool m8, .int .i64 m9, .slice a n c] : Array Value)[j]? := B1.cell
      go_wp2_with fail
      refine (HLG.out _ X1).mono ?_
      rintro e w1' ⟨rfl, rfl⟩
      go_wp2_with fail
      refine (HE1.out _ X1).mono ?_
      rintro e w2 ⟨a2, c2, rfl, x2, r2⟩
      clear r2
      go_wp2_with fail
      go_ret
      exact ⟨rfl, X1.trans x2⟩
  · rw [hlg] at HLG
    obtain ⟨a, c, rfl, hc1, hc2⟩ := hv.form
    clear HE1 hv hlg hin
    obtain ⟨m1, m2, m3, m4, m5, m6, m7, m8, m9, vs⟩ := m
    simp only at *
    generalize vs.length = n at *
    go_enter Try.func13, Try.ntmps13
    go_upto_region 1 with fail
    have BV := Bk.new w #[.int .i64 m1, .int .i64 m2, .int .i64 m3, .int .i64 m4, .int .i64 m5, .int .i64 m6, .int .i64 m7, .bool m8, .int .i64 m9, .slice a n c] 71 w.heap.size rfl
    have X0 : Ext w (w.alloc (.cells #[.int .i64 m1, .int .i64 m2, .int .i64 m3, .int .i64 m4, .int .i64 m5, .int .i64 m6, .int .i64 m7, .bool m8, .int .i64 m9, .slice a n c] 71)) := (Ext.refl w).alloc _
    generalize w.alloc (.cells #[.int .i64 m1, .int .i64 m2, .int .i64 m3, .int .i64 m4, .int .i64 m5, .int .i64 m6, .int .i64 m7, .bool m8, .int .i64 m9, .slice a n c] 71) = W at *
    go_wp2_with fail
    refine (HK.out _).mono ?_
    rintro e w1 ⟨rfl, x1⟩
    have X1 := X0.trans x1
    have B1 := BV.ext x1
    have q1 : ∀ j, w1.cell? ⟨w.heap.size, j, none⟩ = (#[.int .i64 m1, .int .i64 m2, .int .i64 m3, .int .i64 m4, .int .i64 m5, .int .i64 m6, .int .i64 m7, .bool m8, .int .i64 m9, .slice a n c] : Array Value)[j]? := B1.cell
    go_wp2_with fail
    refine (HLG.out _ X1).mono ?_
    rintro e w1' ⟨rfl, rfl⟩
    go_wp2_with fail
    go_ret
    exact ⟨rfl, X1⟩
end Go.Proofs.Ytjaofbfppnmdjaa
