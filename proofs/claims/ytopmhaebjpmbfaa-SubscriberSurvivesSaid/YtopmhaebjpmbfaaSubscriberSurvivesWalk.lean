/- The walk of the statement SubscriberSurvives. -/
import Derived.Test.YtopmhaebjpmbfaaSurP
import Derived.Test.YtopmhaebjpmbfaaPubM
import Derived.Test.YtopmhaebjpmbfaaSubK
import Derived.Test.YtopmhaebjpmbfaaSubscriberFollowsWalk
import Derived.Test.YtopmhaebjpmbfaaReg
namespace Go.Proofs.Ytopmhaebjpmbfaa
open Go.RowKit
attribute [local go_sem ↓] Go.wp_at_zero Go.wp_at_succ

theorem ways_of (s t y : SSt) (ms : List Msg) (n lo : Int) (ht : tickS s = t) (hy : hears s ms (decide (n = lo)) = y) (hm : ms = [] ∨ ∃ m, ms = [m]) : ∃ bb : Bool,
    ((ms.length = 0 ∨ n = lo) ∧ bb = false ∧ y = t) ∨ ∃ m, ms = [m] ∧ n ≠ lo ∧ bb = true ∧ y = (takeS t m).1 := by
  subst ht hy
  rcases hm with rfl | ⟨m, rfl⟩
  · exact ⟨false, .inl ⟨.inl rfl, rfl, rfl⟩⟩
  · by_cases h : n = lo
    · exact ⟨false, .inl ⟨.inr h, rfl, by simp [hears, h]⟩⟩
    · exact ⟨true, .inr ⟨m, rfl, h, rfl, by simp [hears, h]⟩⟩
theorem tick_same (s : SSt) : (tickS s).vals = s.vals ∧ (tickS s).lost = s.lost := by
  unfold tickS
  split <;> exact ⟨rfl, rfl⟩
theorem Vrel.bnd {lose k n : Int} {p : PSt} {s : SSt} (h : Vrel lose k n p s) : s.left ≤ 1000 ∧ s.vals.length ≤ 24 ∧ 0 ≤ s.lost ∧ s.lost ≤ 1 := by
  have hG := h.good
  rcases Int.lt_or_le n 1 with h1 | h1
  · obtain ⟨_, _, rfl⟩ := h.zero (by have := h.n0; omega)
    decide
  · obtain ⟨h2, h3, _, _⟩ := h.on h1
    have ho := hG.on h2
    have hvl := hG.vl
    have hm := h.m79
    rcases h.ph h1 with ⟨_, p2, p3⟩ | ⟨_, p2, p3⟩ | ⟨_, p2, p3⟩
    · have := p2.left; rw [p2.vals]; exact ⟨by omega, hvl, by omega, by omega⟩
    · have := p2.left; rw [p2.vals]; exact ⟨by omega, hvl, by omega, by omega⟩
    · have := p2.left; rw [p2.vals]; exact ⟨by omega, hvl, by omega, by omega⟩

set_option maxRecDepth 100000 in
set_option maxHeartbeats 16000000 in
theorem survives_walk (x y z : Int) (w : World) : Calls Try.prog 12 #[.int .i64 x, .int .i64 y, .int .i64 z] w fun e w' => e = .returned (.bool true) ∧ Ext w w' := by
  have HK := Lib.hid (fun w1 => known14_any w1)
  have HN := Lib.hid (fun w1 => newSub_any 3 4 w1)
  simp only [newSub] at HN
  have HW1 := Lib.hid (fun w1 => within14_any x 20 w1 (by omega) (by omega))
  have HW2 := Lib.hid (fun w1 => within14_any y 60 w1 (by omega) (by omega))
  have HW3 := Lib.hid (fun w1 => within14_any z 6 w1 (by omega) (by omega))
  have hf : 0 ≤ x % 20 ∧ x % 20 < 20 := by omega
  have hg : 0 ≤ y % 60 ∧ y % 60 < 60 := by omega
  have hh : 0 ≤ z % 6 ∧ z % 6 < 6 := by omega
  generalize x % 20 = F0 at *
  generalize y % 60 = M0 at *
  generalize z % 6 = L0 at *
  obtain ⟨f1, f2⟩ := hf
  obtain ⟨g1, g2⟩ := hg
  obtain ⟨l1, l2⟩ := hh
  have HNP := Lib.hid (fun w1 => new_any 3 (1 + F0) (1 + F0 + M0) 4 w1 (by omega) (by omega) (by omega) (by omega) (by omega) (by omega) (by omega) (by omega))
  simp only [newS] at HNP
  have HGN : Hid (Good 3 4 0 (newS 3 (1 + F0) (1 + F0 + M0) 4) ∧ 1 + F0 + M0 ≤ 79) := ⟨Good.new (by omega) (by omega) (by omega), by omega⟩
  have e1 : IntKind.i64.wrap (1 + F0) = 1 + F0 := IntWalk.i64_in _ (by omega)
  have e2 : IntKind.i64.wrap (1 + F0 + M0) = 1 + F0 + M0 := IntWalk.i64_in _ (by omega)
  have e3 : IntKind.i64.wrap (1 + L0) = 1 + L0 := IntWalk.i64_in _ (by omega)
  go_enter Try.func12, Try.ntmps12
  go_wp2_with fail
  refine (HK.out _).mono ?_
  rintro e w1 ⟨rfl, x1⟩
  go_wp2_with fail
  refine (HW1.out _).mono ?_
  rintro e wq ⟨rfl, rfl⟩
  go_wp2_with fail
  refine (HW2.out _).mono ?_
  rintro e wq ⟨rfl, rfl⟩
  go_wp2_with fail
  refine (HNP.out _).mono ?_
  rintro e w2 ⟨rfl, x2⟩
  have X2 := x1.trans x2
  have HBP := Lib.hid X2.size
  clear e1 e2 f1 f2 g1 g2 HW1 HW2 HNP
  generalize 1 + F0 + M0 = M at *
  generalize 1 + F0 = F at *
  go_upto_region 5 with fail
  have B2 := Lib.hid (Bk.new w2 #[.int .i64 3, .int .i64 F, .int .i64 M, .int .i64 4, .bool false, .int .i64 0, .int .i64 0, .int .i64 0, .int .i64 0, .int .i64 0, .int .i64 0, .int .i64 0, .slice none 0 0] 28 w2.heap.size rfl)
  have X3 := X2.alloc (.cells #[.int .i64 3, .int .i64 F, .int .i64 M, .int .i64 4, .bool false, .int .i64 0, .int .i64 0, .int .i64 0, .int .i64 0, .int .i64 0, .int .i64 0, .int .i64 0, .slice none 0 0] 28)
  generalize w2.alloc (.cells #[.int .i64 3, .int .i64 F, .int .i64 M, .int .i64 4, .bool false, .int .i64 0, .int .i64 0, .int .i64 0, .int .i64 0, .int .i64 0, .int .i64 0, .int .i64 0, .slice none 0 0] 28) = W at *
  generalize w2.heap.size = BP at *
  go_wp2_with fail
  refine (HN.out _).mono ?_
  rintro e w3 ⟨rfl, x3⟩
  have X4 := (X3.trans x3)
  have HBS := Lib.hid X4.size
  have B2' := B2.out.ext x3
  have hne : BP < w3.heap.size := B2'.lt
  clear B2
  have B2 := B2'.alloc (.cells #[.int .i64 3, .int .i64 4, .bool false, .int .i64 0, .int .i64 0, .int .i64 0, .int .i64 0, .bool false, .slice none 0 0] 50)
  clear B2'
  go_upto_region 6 with fail
  have B3 := Bk.new w3 #[.int .i64 3, .int .i64 4, .bool false, .int .i64 0, .int .i64 0, .int .i64 0, .int .i64 0, .bool false, .slice none 0 0] 50 w3.heap.size rfl
  replace X4 := X4.alloc (.cells #[.int .i64 3, .int .i64 4, .bool false, .int .i64 0, .int .i64 0, .int .i64 0, .int .i64 0, .bool false, .slice none 0 0] 50)
  generalize w3.alloc (.cells #[.int .i64 3, .int .i64 4, .bool false, .int .i64 0, .int .i64 0, .int .i64 0, .int .i64 0, .bool false, .slice none 0 0] 50) = W3 at *
  generalize w3.heap.size = BS at *
  clear X2 x1 x2 x3 X3 HK HN
  go_wp2_with fail
  refine (HW3.out _).mono ?_
  rintro e wq ⟨rfl, rfl⟩
  have hlo : 1 ≤ 1 + L0 ∧ 1 + L0 ≤ 6 := by omega
  go_wp2_with fail
  clear e3 l1 l2 HW3
  generalize 1 + L0 = LO at *
  obtain ⟨hlo1, hlo2⟩ := hlo
  go_loopw [10, 11] (fun nn i wr => ∃ (k : Nat) (n : Int) (p : PSt) (s : SSt) (a : Option Addr) (c : Nat) (a0 : Option Addr) (c0 : Nat), k ≤ 900 ∧ i = .int .i64 k ∧ nn = .int .i64 n ∧ (Vrel LO k n p s ∧ n ≤ LO + 3) ∧ Bk wr BP 28 (pubC p (.slice a p.vals.length c)) ∧ Bk wr BS 50 (subC s (.slice a0 s.vals.length c0)) ∧ RF (VV BP BS) 6 valE wr (.slice a p.vals.length c) p.vals ∧ RF (VV BP BS) 6 valE wr (.slice a0 s.vals.length c0) s.vals ∧ Ext w wr) (fun _ i _ => 900 - (intOf i).toNat)
  case atStart => exact ⟨0, 0, newS 3 F M 4, newSub 3 4, none, 0, none, 0, by omega, rfl, rfl, ⟨⟨HGN.out.1, HGN.out.2, by omega, fun _ => ⟨rfl, rfl, rfl⟩, fun h => by omega, fun h => by omega⟩, by omega⟩, B2, B3, RF.nil _ _ _ _, RF.nil _ _ _ _, X4⟩
  case round =>
    obtain ⟨k, n, p, s, a, c, a0, c0, hk, rfl, rfl, ⟨hJ, hnb⟩, hBP, hBS, hRP, hRS, hx⟩ := hrel
    clear B2 B3 X4
    have htm := hJ.time
    have hn0 := hJ.n0
    have hki : (k : Int) < 900 := by omega
    by_cases hlt : n < LO + 3
    · have lP0 := hBP.lt
      have lS0 := hBS.lt
      have hbd := hJ.bnd
      obtain ⟨hb1, hb2, hb3, hb4⟩ := hJ.good.bnd
      have hmod : Mod p := by
        have h0 : 0 ≤ p.state ∧ p.state ≤ 3000 ∧ 0 ≤ p.seq ∧ p.seq ≤ 3000 := by
          cases hs : p.started
          · have := hJ.good.off hs; omega
          · have := hJ.good.on hs; omega
        exact ⟨by omega, by omega, by omega⟩
      have hvl := hJ.good.vl
      have hvk := (vals_ok 1).2
      have HS := Lib.hid (fun w1 v u (h : RF Any 6 valE w1 v p.vals) (h2 : RF Any 6 valE w1 u (valsOf 1)) => step_any p (valsOf 1) 0 0 0 v u w1 h h2 (by omega) (by omega) hmod)
      obtain ⟨q, ms, hst⟩ : ∃ q ms, stepS p (valsOf 1) 0 0 0 = (q, ms) := ⟨_, _, rfl⟩
      have hlen := stepS_len p (valsOf 1) 0 0 0
      rw [hst] at HS hlen
      simp only at hlen
      obtain ⟨hG1, hva, hys⟩ := sur_step (by omega) (by omega) hlt hJ hst
      obtain ⟨y, hy⟩ : ∃ y, hears s ms (decide (n = LO)) = y := ⟨_, rfl⟩
      obtain ⟨t, ht⟩ : ∃ t, tickS s = t := ⟨_, rfl⟩
      obtain ⟨bb, hway⟩ := ways_of s t y ms n LO ht hy hlen
      have HWAY := Lib.hid hway
      have htl := tick_same s
      have HTK := Lib.hid (fun w1 v h => tick_any (V := Any) s v w1 h (by omega) (by omega))
      rw [ht] at HTK htl
      rw [hy] at hG1 hva hys
      have HTL : Hid (t.vals.length ≤ 24 ∧ 0 ≤ t.lost ∧ t.lost ≤ 1) := by rw [htl.1, htl.2]; exact ⟨hbd.2.1, hbd.2.2.1, hbd.2.2.2⟩
      have HVA := Lib.hid (fun v w1 => valid_any y v w1)
      rw [hva] at HVA
      have HSV := Lib.hid (fun va vb w1 h h' => sameVals_any (valsOf 1) (valsOf 1) va vb w1 h h')
      simp only [decide_true] at HSV
      have hml : ms.length = 0 ∨ ms.length = 1 := by rcases hlen with rfl | ⟨m, rfl⟩ <;> simp
      have hnb2 : n + ms.length ≤ LO + 3 := by omega
      have HRPA := Lib.hid (fun w' (he : Ext wr w') => (hRP.ext he).weak (by omega) (V' := Any) (fun _ _ h => h.elim))
      have HRSA := Lib.hid (fun w' (he : Ext wr w') => (hRS.ext he).weak (by omega) (V' := Any) (fun _ _ h => h.elim))
      have HX := Lib.hid hx
      have HG1 := Lib.hid hG1
      clear hG1 hva hy ht hway htl hJ hst hlen hmod hRP hRS hx hbd hvl
      obtain ⟨p1, p2, p3, p4, p5, p6, p7, p8, p9, p10, p11, p12, vp⟩ := p
      obtain ⟨q1, q2, q3, q4, q5, q6, q7, q8, q9, q10, q11, q12, L⟩ := q
      obtain ⟨s1, s2, s3, s4, s5, s6, s7, s8, vs⟩ := s
      obtain ⟨t1, t2, t3, t4, t5, t6, t7, t8, vt⟩ := t
      obtain ⟨y1, y2, y3, y4, y5, y6, y7, y8, vy⟩ := y
      simp only at *
      subst hys
      generalize hnL : L.length = nL at *
      have HL1 := Lib.hid hnL
      generalize hnK : (valsOf 1).length = nK at *
      have HLK := Lib.hid hnK
      generalize hnm : ms.length = nm at *
      have HNM := Lib.hid hnm
      have HNM1 := Lib.hid hml
      have HNB := Lib.hid hnb2
      have hnm1 : nm ≤ 1 := by omega
      generalize hnt : vt.length = nt at *
      have HNT := Lib.hid hnt
      generalize vp.length = np at *
      generalize vs.length = n0 at *
      clear hnL hnK hnm hnt hml hnb2
      have HNY := HLK
      have HV := Lib.hid (fun w1 => values_any 1 w1)
      generalize valsOf 1 = vy at *
      have HPA : Hid (∀ w', Ext wr w' → Bk w' BP 28 #[.int .i64 p1, .int .i64 p2, .int .i64 p3, .int .i64 p4, .bool p5, .int .i64 p6, .int .i64 p7, .int .i64 p8, .int .i64 p9, .int .i64 p10, .int .i64 p11, .int .i64 p12, .slice a np c]) := fun w' he => hBP.ext he
      have HSA : Hid (∀ w', Ext wr w' → Bk w' BS 50 #[.int .i64 s1, .int .i64 s2, .bool s3, .int .i64 s4, .int .i64 s5, .int .i64 s6, .int .i64 s7, .bool s8, .slice a0 n0 c0]) := fun w' he => hBS.ext he
      have HPC : Hid (∀ w', Ext wr w' → ∀ j, w'.cell? ⟨BP, j, none⟩ = (#[.int .i64 p1, .int .i64 p2, .int .i64 p3, .int .i64 p4, .bool p5, .int .i64 p6, .int .i64 p7, .int .i64 p8, .int .i64 p9, .int .i64 p10, .int .i64 p11, .int .i64 p12, .slice a np c] : Array Value)[j]?) := fun w' he => (hBP.ext he).cell
      have qp : ∀ j, wr.cell? ⟨BP, j, none⟩ = (#[.int .i64 p1, .int .i64 p2, .int .i64 p3, .int .i64 p4, .bool p5, .int .i64 p6, .int .i64 p7, .int .i64 p8, .int .i64 p9, .int .i64 p10, .int .i64 p11, .int .i64 p12, .slice a np c] : Array Value)[j]? := hBP.cell
      clear hBP hBS
      go_upto_region 11 with fail
      go_cut [12, 13] (fun t m wx => ∃ (tb : Nat) (a5 : Option Addr) (c5 : Nat) (a6 : Option Addr) (c6 : Nat), t = .pointer (some ⟨tb, 0, none⟩) ∧ m = .slice a6 nm c6 ∧ AftO wr wx BP tb #[.int .i64 p1, .int .i64 p2, .int .i64 p3, .int .i64 p4, .bool p5, .int .i64 p6, .int .i64 p7, .int .i64 p8, .int .i64 p9, .int .i64 p10, .int .i64 p11, .int .i64 p12, .slice a np c] ⟨q1, q2, q3, q4, q5, q6, q7, q8, q9, q10, q11, q12, L⟩ ms a5 c5 a6 c6)
      case first =>
        go_region_held3 (fun w' => ∀ j, w'.cell? ⟨BP, j, none⟩ = (#[.int .i64 p1, .int .i64 p2, .int .i64 p3, .int .i64 p4, .bool p5, .int .i64 p6, .int .i64 p7, .int .i64 p8, .int .i64 p9, .int .i64 p10, .int .i64 p11, .int .i64 p12, .slice a np c] : Array Value)[j]?)
          (first | (with_reducible exact qp) | (exact HPC.out _ (by first | (with_reducible exact (Ext.refl wr).drew) | (with_reducible exact ((Ext.refl wr).alloc _).drew) | (with_reducible exact (Ext.refl wr).drew.alloc _) | (with_reducible exact E4) | (with_reducible exact E4.alloc _) | (with_reducible exact E5) | (with_reducible exact E5.alloc _) | (with_reducible exact (Ext.refl wr)))) | (intro j; (repeat rw [World.cell?_setCell_other _ _ _ _ (by first | (simp; done) | (simp; omega))]); with_reducible exact HPC.out _ E5 j) | fail)
          (first
            | (go_at_call 18; (with_reducible refine (HV.out _).mono ?_); rintro e w4 ⟨a4, c4, he, x4, r4⟩; rw [HLK.out] at he r4; subst he; have E4 : Ext wr w4 := Ext.trans (by first | (with_reducible exact (Ext.refl wr).drew) | (with_reducible exact ((Ext.refl wr).alloc _).drew) | (with_reducible exact (Ext.refl wr).drew.alloc _)) x4; have lB4 : BP < w4.heap.size := E4.lt lP0; (first | (with_reducible have T4 := Lib.hid ((Bk.new wr #[.int .i64 0, .int .i64 0, .int .i64 0, .int .i64 0, .bool false, .int .i64 0, .int .i64 0, .int .i64 0, .int .i64 0, .int .i64 0, .int .i64 0, .int .i64 0, .slice none 0 0] 28 wr.heap.size rfl).drew.ext x4)) | (with_reducible have T4 := Lib.hid ((Bk.new wr.drew #[.int .i64 0, .int .i64 0, .int .i64 0, .int .i64 0, .bool false, .int .i64 0, .int .i64 0, .int .i64 0, .int .i64 0, .int .i64 0, .int .i64 0, .int .i64 0, .slice none 0 0] 28 wr.heap.size rfl).ext x4)) | (have T4 := Lib.hid True.intro)); have Ha4 := Lib.hid (fun w' (he : Ext w4 w') => (r4.ext he).weak (by omega) (V' := Any) (fun _ _ h => h.elim)); clear r4)
            | (go_at_call 17; (with_reducible refine (HS.out _ _ _ (HRPA.out _ (by first | (with_reducible exact E4) | (with_reducible exact E4.alloc _))) (Ha4.out _ (by first | (with_reducible exact Ext.refl w4) | (with_reducible exact (Ext.refl w4).alloc _)))).mono ?_); rintro e w5 ⟨a5, c5, a6, c6, he, x5, r5, m5⟩; simp only [HL1.out, HNM.out] at he; subst he; have E5 : Ext wr w5 := Ext.trans (by first | (with_reducible exact E4) | (with_reducible exact E4.alloc _)) x5; (first | (with_reducible have T5 := Lib.hid ((Bk.new w4 #[.int .i64 0, .int .i64 0, .int .i64 0, .int .i64 0, .bool false, .int .i64 0, .int .i64 0, .int .i64 0, .int .i64 0, .int .i64 0, .int .i64 0, .int .i64 0, .slice none 0 0] 28 w4.heap.size rfl).ext x5)) | (with_reducible have T5 := Lib.hid (T4.out.ext x5)) | (have T5 := Lib.hid True.intro)); (try have tc5 := T5.out.cell); (try have tf5 := T5.out.frozen))
            | fail)
        all_goals
          first
            | (with_reducible have hA0 := aftO_put (n := ⟨q1, q2, q3, q4, q5, q6, q7, q8, q9, q10, q11, q12, L⟩) (E4.alloc (.cells #[.int .i64 0, .int .i64 0, .int .i64 0, .int .i64 0, .bool false, .int .i64 0, .int .i64 0, .int .i64 0, .int .i64 0, .int .i64 0, .int .i64 0, .int .i64 0, .slice none 0 0] 28)) x5 (HPA.out _ (E4.alloc _)) (Bk.new w4 #[.int .i64 0, .int .i64 0, .int .i64 0, .int .i64 0, .bool false, .int .i64 0, .int .i64 0, .int .i64 0, .int .i64 0, .int .i64 0, .int .i64 0, .int .i64 0, .slice none 0 0] 28 w4.heap.size rfl) rfl (by omega) (E4.size) r5 m5
               have hA : AftO wr (put w5 w4.heap.size 0 [.int .i64 q1, .int .i64 q2, .int .i64 q3, .int .i64 q4, .bool q5, .int .i64 q6, .int .i64 q7, .int .i64 q8, .int .i64 q9, .int .i64 q10, .int .i64 q11, .int .i64 q12, .slice a5 nL c5]) BP w4.heap.size #[.int .i64 p1, .int .i64 p2, .int .i64 p3, .int .i64 p4, .bool p5, .int .i64 p6, .int .i64 p7, .int .i64 p8, .int .i64 p9, .int .i64 p10, .int .i64 p11, .int .i64 p12, .slice a np c] ⟨q1, q2, q3, q4, q5, q6, q7, q8, q9, q10, q11, q12, L⟩ ms a5 c5 a6 c6 := by simpa only [HL1.out] using hA0
               clear hA0
               change Exit.then _ _ _ _ (put w5 w4.heap.size 0 [.int .i64 q1, .int .i64 q2, .int .i64 q3, .int .i64 q4, .bool q5, .int .i64 q6, .int .i64 q7, .int .i64 q8, .int .i64 q9, .int .i64 q10, .int .i64 q11, .int .i64 q12, .slice a5 nL c5])
               generalize put w5 w4.heap.size 0 [.int .i64 q1, .int .i64 q2, .int .i64 q3, .int .i64 q4, .bool q5, .int .i64 q6, .int .i64 q7, .int .i64 q8, .int .i64 q9, .int .i64 q10, .int .i64 q11, .int .i64 q12, .slice a5 nL c5] = w6 at *
               have HA := Lib.hid hA
               clear hA
               go_wp2_with fail
               go_meet
               exact ⟨w4.heap.size, a5, c5, a6, c6, rfl, rfl, HA.out⟩)
            | (with_reducible have hA0 := aftO_put (n := ⟨q1, q2, q3, q4, q5, q6, q7, q8, q9, q10, q11, q12, L⟩) (E4) x5 (HPA.out _ E4) ((show Bk w4 wr.heap.size 28 #[.int .i64 0, .int .i64 0, .int .i64 0, .int .i64 0, .bool false, .int .i64 0, .int .i64 0, .int .i64 0, .int .i64 0, .int .i64 0, .int .i64 0, .int .i64 0, .slice none 0 0] from T4.out)) rfl (by omega) (Nat.le_refl _) r5 m5
               have hA : AftO wr (put w5 wr.heap.size 0 [.int .i64 q1, .int .i64 q2, .int .i64 q3, .int .i64 q4, .bool q5, .int .i64 q6, .int .i64 q7, .int .i64 q8, .int .i64 q9, .int .i64 q10, .int .i64 q11, .int .i64 q12, .slice a5 nL c5]) BP wr.heap.size #[.int .i64 p1, .int .i64 p2, .int .i64 p3, .int .i64 p4, .bool p5, .int .i64 p6, .int .i64 p7, .int .i64 p8, .int .i64 p9, .int .i64 p10, .int .i64 p11, .int .i64 p12, .slice a np c] ⟨q1, q2, q3, q4, q5, q6, q7, q8, q9, q10, q11, q12, L⟩ ms a5 c5 a6 c6 := by simpa only [HL1.out] using hA0
               clear hA0
               change Exit.then _ _ _ _ (put w5 wr.heap.size 0 [.int .i64 q1, .int .i64 q2, .int .i64 q3, .int .i64 q4, .bool q5, .int .i64 q6, .int .i64 q7, .int .i64 q8, .int .i64 q9, .int .i64 q10, .int .i64 q11, .int .i64 q12, .slice a5 nL c5])
               generalize put w5 wr.heap.size 0 [.int .i64 q1, .int .i64 q2, .int .i64 q3, .int .i64 q4, .bool q5, .int .i64 q6, .int .i64 q7, .int .i64 q8, .int .i64 q9, .int .i64 q10, .int .i64 q11, .int .i64 q12, .slice a5 nL c5] = w6 at *
               have HA := Lib.hid hA
               clear hA
               go_wp2_with fail
               go_meet
               exact ⟨wr.heap.size, a5, c5, a6, c6, rfl, rfl, HA.out⟩)
            | (have hA0 := aftO_new (n := ⟨q1, q2, q3, q4, q5, q6, q7, q8, q9, q10, q11, q12, L⟩) E4 x5 (HPA.out _ E4) r5 m5
               have hA : AftO wr (w5.alloc (.cells #[.int .i64 q1, .int .i64 q2, .int .i64 q3, .int .i64 q4, .bool q5, .int .i64 q6, .int .i64 q7, .int .i64 q8, .int .i64 q9, .int .i64 q10, .int .i64 q11, .int .i64 q12, .slice a5 nL c5] 28)) BP w5.heap.size #[.int .i64 p1, .int .i64 p2, .int .i64 p3, .int .i64 p4, .bool p5, .int .i64 p6, .int .i64 p7, .int .i64 p8, .int .i64 p9, .int .i64 p10, .int .i64 p11, .int .i64 p12, .slice a np c] ⟨q1, q2, q3, q4, q5, q6, q7, q8, q9, q10, q11, q12, L⟩ ms a5 c5 a6 c6 := by simpa only [HL1.out] using hA0
               clear hA0
               generalize w5.alloc (.cells #[.int .i64 q1, .int .i64 q2, .int .i64 q3, .int .i64 q4, .bool q5, .int .i64 q6, .int .i64 q7, .int .i64 q8, .int .i64 q9, .int .i64 q10, .int .i64 q11, .int .i64 q12, .slice a5 nL c5] 28) = w6 at *
               have HA := Lib.hid hA
               clear hA
               go_wp2_with fail
               go_meet
               exact ⟨w5.heap.size, a5, c5, a6, c6, rfl, rfl, HA.out⟩)
      case rest =>
        obtain ⟨tb, a5, c5, a6, c6, rfl, rfl, hT, hSb, hle, hR5, hM5, hx5⟩ := hcut
        simp only [HL1.out] at hT hR5
        obtain ⟨wA, rfl⟩ : ∃ wA, wA = wc := ⟨_, rfl⟩
        have qs : ∀ j, wA.cell? ⟨BS, j, none⟩ = (#[.int .i64 s1, .int .i64 s2, .bool s3, .int .i64 s4, .int .i64 s5, .int .i64 s6, .int .i64 s7, .bool s8, .slice a0 n0 c0] : Array Value)[j]? := (HSA.out _ hx5).cell
        have htS : tb ≠ BS := by omega
        have lSA : BS < wA.heap.size := hx5.lt lS0
        clear qp HS HPC HPA HRPA
        go_wp2_with fail
        refine (HTK.out _ _ (HRSA.out _ hx5)).mono ?_
        rintro e w2 ⟨a2, c2, he, x2, r2⟩
        simp only [HNT.out] at he r2
        subst he
        have PS := Lib.hid ((HSA.out _ hx5).ext x2)
        have qs2 := PS.out.cell
        have fs2 := PS.out.frozen
        go_upto_region 13 with fail
        clear qs2 fs2 qs
        change Code.wp _ _ _ _ (put w2 BS 0 [.int .i64 t1, .int .i64 t2, .bool t3, .int .i64 t4, .int .i64 t5, .int .i64 t6, .int .i64 t7, .bool t8, .slice a2 nt c2])
        have CS := Lib.hid (put_all (vs := [.int .i64 t1, .int .i64 t2, .bool t3, .int .i64 t4, .int .i64 t5, .int .i64 t6, .int .i64 t7, .bool t8, .slice a2 nt c2]) PS.out rfl)
        have CT := Lib.hid (put_other (B := tb) (B' := BS) (Ne.symm htS) [.int .i64 t1, .int .i64 t2, .bool t3, .int .i64 t4, .int .i64 t5, .int .i64 t6, .int .i64 t7, .bool t8, .slice a2 nt c2] 0 _ (hT.ext x2))
        have CP := Lib.hid (put_other (B := BP) (B' := BS) (by omega) [.int .i64 t1, .int .i64 t2, .bool t3, .int .i64 t4, .int .i64 t5, .int .i64 t6, .int .i64 t7, .bool t8, .slice a2 nt c2] 0 _ (hSb.ext x2))
        have X3 := Lib.hid (put_ext (a := w) HBS.out [.int .i64 t1, .int .i64 t2, .bool t3, .int .i64 t4, .int .i64 t5, .int .i64 t6, .int .i64 t7, .bool t8, .slice a2 nt c2] 0 _ ((HX.out.trans hx5).trans x2))
        have RT3 := Lib.hid ((r2.weak (by omega) (V' := VV BP BS) (fun g _ hg => hg.elim (fun e => by rw [e]; exact hx5.lt lP0) (fun e => by rw [e]; exact lSA))).agree (agree_put (V := VV BP BS) (.inr rfl) [.int .i64 t1, .int .i64 t2, .bool t3, .int .i64 t4, .int .i64 t5, .int .i64 t6, .int .i64 t7, .bool t8, .slice a2 nt c2] 0 w2))
        have RQ3 := Lib.hid (((hR5.ext x2).agree (agree_put (V := Old wr) lS0 [.int .i64 t1, .int .i64 t2, .bool t3, .int .i64 t4, .int .i64 t5, .int .i64 t6, .int .i64 t7, .bool t8, .slice a2 nt c2] 0 w2)).weak (by omega) (V' := VV BP BS) (fun g _ hg => hg.elim (fun e => by rw [e]; exact lP0) (fun e => by rw [e]; exact lS0)))
        have HM3 : Hid (RS (Old wr) 10 (msgRep (Old wr)) (put w2 BS 0 [.int .i64 t1, .int .i64 t2, .bool t3, .int .i64 t4, .int .i64 t5, .int .i64 t6, .int .i64 t7, .bool t8, .slice a2 nt c2]) (.slice a6 ms.length c6) ms) := RS.agree (RS.agree hM5 (x2.agree _) (fun _ _ _ hm => msgRep.ext hm x2)) (agree_put (V := Old wr) lS0 [.int .i64 t1, .int .i64 t2, .bool t3, .int .i64 t4, .int .i64 t5, .int .i64 t6, .int .i64 t7, .bool t8, .slice a2 nt c2] 0 w2) (fun _ _ _ hm => msgRep.agree hm (agree_put (V := Old wr) lS0 [.int .i64 t1, .int .i64 t2, .bool t3, .int .i64 t4, .int .i64 t5, .int .i64 t6, .int .i64 t7, .bool t8, .slice a2 nt c2] 0 w2))
        clear hT hSb hR5 hM5 hx5 x2 r2 PS
        generalize put w2 BS 0 [.int .i64 t1, .int .i64 t2, .bool t3, .int .i64 t4, .int .i64 t5, .int .i64 t6, .int .i64 t7, .bool t8, .slice a2 nt c2] = w3 at *
        go_cut [58] (fun c wx => c = .bool bb ∧ wx = w3)
        case first =>
          rcases HWAY.out with ⟨hz, hbb, _⟩ | ⟨m, hms, hnl, hbb, _⟩
          · subst hbb
            rcases hz with hz | hz
            · obtain rfl : nm = 0 := hz
              go_wp2_with fail
              go_meet
              exact ⟨rfl, rfl⟩
            · rcases HNM1.out with hz1 | hz1
              · obtain rfl : nm = 0 := hz1
                clear hz
                go_wp2_with fail
                go_meet
                exact ⟨rfl, rfl⟩
              · obtain rfl : nm = 1 := hz1
                subst hz
                have hll : (n != n) = false := by simp
                go_wp2_with fail
                go_meet
                exact ⟨rfl, rfl⟩
          · subst hbb
            subst hms
            obtain rfl : nm = 1 := HNM.out.symm
            have hll : (n != LO) = true := by simpa using hnl
            go_wp2_with fail
            go_meet
            exact ⟨rfl, rfl⟩
        case rest =>
        obtain ⟨rfl, hw3⟩ := hcut
        obtain rfl := hw3.symm
        go_upto_if 58 with fail
        go_cut [59] (fun _ wx => ∃ (a3 : Option Addr) (c3 : Nat), Bk wx BS 50 #[.int .i64 y1, .int .i64 y2, .bool y3, .int .i64 y4, .int .i64 y5, .int .i64 y6, .int .i64 y7, .bool y8, .slice a3 nK c3] ∧ Bk wx tb 28 #[.int .i64 q1, .int .i64 q2, .int .i64 q3, .int .i64 q4, .bool q5, .int .i64 q6, .int .i64 q7, .int .i64 q8, .int .i64 q9, .int .i64 q10, .int .i64 q11, .int .i64 q12, .slice a5 nL c5] ∧ Bk wx BP 28 #[.int .i64 p1, .int .i64 p2, .int .i64 p3, .int .i64 p4, .bool p5, .int .i64 p6, .int .i64 p7, .int .i64 p8, .int .i64 p9, .int .i64 p10, .int .i64 p11, .int .i64 p12, .slice a np c] ∧ RF (VV BP BS) 6 valE wx (.slice a3 nK c3) vy ∧ RF (VV BP BS) 6 valE wx (.slice a5 nL c5) L ∧ Ext w wx)
        case first =>
          rcases HWAY.out with ⟨_, hbb, hy⟩ | ⟨m, hms, _, hbb, hy⟩
          · subst hbb
            simp only [SSt.mk.injEq] at hy
            obtain ⟨rfl, rfl, rfl, rfl, rfl, rfl, rfl, rfl, rfl⟩ := hy
            obtain rfl : nK = nt := HNY.out.symm.trans HNT.out
            go_wp2_with fail
            go_meet
            exact ⟨a2, c2, CS.out, CT.out, CP.out, RT3.out, RQ3.out, X3.out⟩
          · subst hbb
            subst hms
            obtain rfl : nm = 1 := HNM.out.symm
            have HTA := Lib.hid (fun w1 v u h1 h2 => take_any ⟨t1, t2, t3, t4, t5, t6, t7, t8, vt⟩ m v u w1 h1 h2 (by have := HTL.out; have := HNT.out; simp only at *; omega) (by have := HTL.out; simp only at *; omega))
            have HYT := Lib.hid hy
            clear hy
            obtain ⟨z, hz⟩ : ∃ z, takeS ⟨t1, t2, t3, t4, t5, t6, t7, t8, vt⟩ m = z := ⟨_, rfl⟩
            rw [hz] at HTA HYT
            clear hz
            obtain ⟨z1, z2⟩ := z
            simp only at HYT
            obtain rfl := HYT.out
            clear HYT
            obtain ⟨m1, m2, m3, m4, m5, m6, m7, m8, m9, ml⟩ := m
            obtain ⟨mb, mo, mc, ma, mc', hvm, hmV, g0, g1, g2, g3, g4, g5, g6, g7, g8, g9, hrm⟩ := msg_get HM3.out
            simp only [Value.slice.injEq, List.length_cons, List.length_nil, Nat.zero_add] at hvm
            obtain ⟨rfl, -, rfl⟩ := hvm
            simp only at g0 g1 g2 g3 g4 g5 g6 g7 g8 g9 hrm

            generalize hnml : ml.length = nml at *
            clear hnml
            have qs : ∀ j, w3.cell? ⟨BS, j, none⟩ = (#[.int .i64 t1, .int .i64 t2, .bool t3, .int .i64 t4, .int .i64 t5, .int .i64 t6, .int .i64 t7, .bool t8, .slice a2 nt c2] : Array Value)[j]? := CS.out.cell
            have HRM : Hid (RF Any 6 valE w3.drew (.slice ma nml mc') ml) := (hrm.ext (Ext.refl w3).drew).weak (by omega) (fun _ _ h => h.elim)
            have HRT : Hid (RF Any 6 valE w3.drew (.slice a2 nt c2) vt) := (RT3.out.ext (Ext.refl w3).drew).weak (by omega) (fun _ _ h => h.elim)
            clear hrm hmV
            go_upto_region 14 with fail
            refine wp_region_callN 4 (by kernel_rfl) (by kernel_rfl) ?_
            simp only [List.take_succ_cons, List.take_zero, List.drop_succ_cons, List.drop_zero]
            repeat still_step
            refine wpStill_nil ?_
            go_wp2_with (go_at_call 25; (with_reducible refine (HTA.out _ _ _ HRT.out HRM.out).mono ?_); rintro e w4 ⟨a3, c3, he, x4, r4⟩; simp only [HNY.out] at he r4; subst he; have E4 : Ext w3 w4 := (Ext.refl w3).drew.trans x4; have PS4 := Lib.hid (CS.out.ext E4); have qs4 := PS4.out.cell; have fs4 := PS4.out.frozen)
            refine NoPanic.normal ?_
            clear qs4 fs4 qs
            have C4 := Lib.hid (put_all (vs := [.int .i64 y1, .int .i64 y2, .bool y3, .int .i64 y4, .int .i64 y5, .int .i64 y6, .int .i64 y7, .bool y8, .slice a3 nK c3]) PS4.out rfl)
            have CT4 := Lib.hid (put_other (B := tb) (B' := BS) (Ne.symm htS) [.int .i64 y1, .int .i64 y2, .bool y3, .int .i64 y4, .int .i64 y5, .int .i64 y6, .int .i64 y7, .bool y8, .slice a3 nK c3] 0 _ (CT.out.ext E4))
            have CP4 := Lib.hid (put_other (B := BP) (B' := BS) (by omega) [.int .i64 y1, .int .i64 y2, .bool y3, .int .i64 y4, .int .i64 y5, .int .i64 y6, .int .i64 y7, .bool y8, .slice a3 nK c3] 0 _ (CP.out.ext E4))
            have X4 := Lib.hid (put_ext (a := w) HBS.out [.int .i64 y1, .int .i64 y2, .bool y3, .int .i64 y4, .int .i64 y5, .int .i64 y6, .int .i64 y7, .bool y8, .slice a3 nK c3] 0 _ (X3.out.trans E4))
            have RY4 := Lib.hid ((r4.weak (by omega) (V' := VV BP BS) (fun g _ hg => hg.elim (fun e => by rw [e]; exact CP.out.lt) (fun e => by rw [e]; exact CS.out.lt))).agree (agree_put (V := VV BP BS) (.inr rfl) [.int .i64 y1, .int .i64 y2, .bool y3, .int .i64 y4, .int .i64 y5, .int .i64 y6, .int .i64 y7, .bool y8, .slice a3 nK c3] 0 w4))
            have RQ4 := Lib.hid ((RQ3.out.ext E4).agree (agree_put (V := VV BP BS) (.inr rfl) [.int .i64 y1, .int .i64 y2, .bool y3, .int .i64 y4, .int .i64 y5, .int .i64 y6, .int .i64 y7, .bool y8, .slice a3 nK c3] 0 w4))
            obtain ⟨w9, hW9⟩ : ∃ w9, put w4 BS 0 [.int .i64 y1, .int .i64 y2, .bool y3, .int .i64 y4, .int .i64 y5, .int .i64 y6, .int .i64 y7, .bool y8, .slice a3 nK c3] = w9 := ⟨_, rfl⟩
            have hW8 := hW9
            simp only [put, Nat.reduceAdd] at hW8
            rw [hW8]
            rw [hW9] at C4 CT4 CP4 X4 RY4 RQ4
            clear hW8 hW9
            go_wp2_with fail
            go_meet
            exact ⟨a3, c3, C4.out, CT4.out, CP4.out, RY4.out, RQ4.out, X4.out⟩
        case rest =>
          obtain ⟨a3, c3, hY, hTq, hPp, hRy, hRq, hx6⟩ := hcut
          clear CS CT CP RT3 RQ3 X3 HM3 HWAY
          have qt : ∀ j, wc.cell? ⟨tb, j, none⟩ = (#[.int .i64 q1, .int .i64 q2, .int .i64 q3, .int .i64 q4, .bool q5, .int .i64 q6, .int .i64 q7, .int .i64 q8, .int .i64 q9, .int .i64 q10, .int .i64 q11, .int .i64 q12, .slice a5 nL c5] : Array Value)[j]? := hTq.cell
          have qp : ∀ j, wc.cell? ⟨BP, j, none⟩ = (#[.int .i64 p1, .int .i64 p2, .int .i64 p3, .int .i64 p4, .bool p5, .int .i64 p6, .int .i64 p7, .int .i64 p8, .int .i64 p9, .int .i64 p10, .int .i64 p11, .int .i64 p12, .slice a np c] : Array Value)[j]? := hPp.cell
          have fp := hPp.frozen
          have HPp := Lib.hid hPp
          have HY := Lib.hid hY
          have HTq := Lib.hid hTq
          have HRy := Lib.hid hRy
          have HRq := Lib.hid hRq
          have HX6 := Lib.hid hx6
          clear hY hTq hPp hRy hRq hx6
          go_upto_region 17 with fail
          change Code.wp _ _ _ _ (put wc BP 0 [.int .i64 q1, .int .i64 q2, .int .i64 q3, .int .i64 q4, .bool q5, .int .i64 q6, .int .i64 q7, .int .i64 q8, .int .i64 q9, .int .i64 q10, .int .i64 q11, .int .i64 q12, .slice a5 nL c5])
          have CQ := Lib.hid (put_all (vs := [.int .i64 q1, .int .i64 q2, .int .i64 q3, .int .i64 q4, .bool q5, .int .i64 q6, .int .i64 q7, .int .i64 q8, .int .i64 q9, .int .i64 q10, .int .i64 q11, .int .i64 q12, .slice a5 nL c5]) HPp.out rfl)
          have CY := Lib.hid (put_other (B := BS) (B' := BP) (by omega) [.int .i64 q1, .int .i64 q2, .int .i64 q3, .int .i64 q4, .bool q5, .int .i64 q6, .int .i64 q7, .int .i64 q8, .int .i64 q9, .int .i64 q10, .int .i64 q11, .int .i64 q12, .slice a5 nL c5] 0 _ HY.out)
          have X7 := Lib.hid (put_ext (a := w) HBP.out [.int .i64 q1, .int .i64 q2, .int .i64 q3, .int .i64 q4, .bool q5, .int .i64 q6, .int .i64 q7, .int .i64 q8, .int .i64 q9, .int .i64 q10, .int .i64 q11, .int .i64 q12, .slice a5 nL c5] 0 _ HX6.out)
          have RY7 := Lib.hid (HRy.out.agree (agree_put (V := VV BP BS) (.inl rfl) [.int .i64 q1, .int .i64 q2, .int .i64 q3, .int .i64 q4, .bool q5, .int .i64 q6, .int .i64 q7, .int .i64 q8, .int .i64 q9, .int .i64 q10, .int .i64 q11, .int .i64 q12, .slice a5 nL c5] 0 wc))
          have RQ7 := Lib.hid (HRq.out.agree (agree_put (V := VV BP BS) (.inl rfl) [.int .i64 q1, .int .i64 q2, .int .i64 q3, .int .i64 q4, .bool q5, .int .i64 q6, .int .i64 q7, .int .i64 q8, .int .i64 q9, .int .i64 q10, .int .i64 q11, .int .i64 q12, .slice a5 nL c5] 0 wc))
          clear qt qp fp HPp HY HTq HRy HRq HX6
          generalize put wc BP 0 [.int .i64 q1, .int .i64 q2, .int .i64 q3, .int .i64 q4, .bool q5, .int .i64 q6, .int .i64 q7, .int .i64 q8, .int .i64 q9, .int .i64 q10, .int .i64 q11, .int .i64 q12, .slice a5 nL c5] = w7 at *
          have qs : ∀ j, w7.cell? ⟨BS, j, none⟩ = (#[.int .i64 y1, .int .i64 y2, .bool y3, .int .i64 y4, .int .i64 y5, .int .i64 y6, .int .i64 y7, .bool y8, .slice a3 nK c3] : Array Value)[j]? := CY.out.cell
          have HSC : Hid (∀ w', Ext w7 w' → ∀ j, w'.cell? ⟨BS, j, none⟩ = (#[.int .i64 y1, .int .i64 y2, .bool y3, .int .i64 y4, .int .i64 y5, .int .i64 y6, .int .i64 y7, .bool y8, .slice a3 nK c3] : Array Value)[j]?) := fun w' he => (CY.out.ext he).cell
          have HRYA := Lib.hid (fun w' (he : Ext w7 w') => (RY7.out.ext he).weak (by omega) (V' := Any) (fun _ _ h => h.elim))
          go_region_held3 (fun w' => ∀ j, w'.cell? ⟨BS, j, none⟩ = (#[.int .i64 y1, .int .i64 y2, .bool y3, .int .i64 y4, .int .i64 y5, .int .i64 y6, .int .i64 y7, .bool y8, .slice a3 nK c3] : Array Value)[j]?)
            (first | (with_reducible exact qs) | (exact HSC.out _ (by first | (with_reducible exact (Ext.refl w7).drew) | (with_reducible exact E4) | (with_reducible exact E5) | (with_reducible exact E6))) | fail)
            (first
              | (go_at_call 42; (with_reducible refine (HVA.out _ _).mono ?_); rintro e w4 ⟨rfl, x4⟩; have E4 : Ext w7 w4 := (Ext.refl w7).drew.trans x4; clear x4)
              | (go_at_call 18; (with_reducible refine (HV.out _).mono ?_); rintro e w5 ⟨a9, c9, he, x5, r5⟩; rw [HLK.out] at he r5; subst he; have E5 : Ext w7 w5 := E4.trans x5; have HR5 := Lib.hid (r5.weak (by omega) (V' := Any) (fun _ _ h => h.elim)); clear r5 x5)
              | (go_at_call 21; (with_reducible refine (HSV.out _ _ _ (HRYA.out _ E5) HR5.out).mono ?_); rintro e w6 ⟨rfl, x6⟩; have E6 : Ext w7 w6 := E5.trans x6; clear x6)
              | fail)
          have B8 := CQ.out.ext E6
          have B9 := CY.out.ext E6
          have R8 := RQ7.out.ext E6
          have R9 := RY7.out.ext E6
          have X8 := X7.out.trans E6
          have HB8 := Lib.hid B8
          have HB9 := Lib.hid B9
          have HR8 := Lib.hid R8
          have HR9 := Lib.hid R9
          have HX8 := Lib.hid X8
          clear B8 B9 R8 R9 X8 qs HSC HRYA CQ CY X7 RY7 RQ7 E4 E5 E6 HR5
          go_wp2_with fail
          go_roundw
          case rel => exact ⟨k + 1, n + nm, ⟨q1, q2, q3, q4, q5, q6, q7, q8, q9, q10, q11, q12, L⟩, ⟨y1, y2, y3, y4, y5, y6, y7, y8, vy⟩, a5, c5, a3, c3, by omega, by go_num, rfl, ⟨by rw [show ((k + 1 : Nat) : Int) = (k : Int) + 1 by omega]; exact HG1.out, HNB.out⟩, by simp only [HL1.out]; exact HB8.out, by simp only [HNY.out]; exact HB9.out, by simp only [HL1.out]; exact HR8.out, by simp only [HNY.out]; exact HR9.out, HX8.out⟩
          case measure => simp [intOf] <;> omega
    · have hn3 : n = LO + 3 := by omega
      have hlost := hJ.end (by omega) hn3
      have hnd : ¬ n < LO + 3 := hlt
      have hne3 : (n == LO + 3) = true := by simpa using hn3
      obtain ⟨s1, s2, s3, s4, s5, s6, s7, s8, vs⟩ := s
      simp only at *
      subst hlost
      have qs : ∀ j, wr.cell? ⟨BS, j, none⟩ = (#[.int .i64 s1, .int .i64 s2, .bool s3, .int .i64 s4, .int .i64 s5, .int .i64 s6, .int .i64 1, .bool s8, .slice a0 vs.length c0] : Array Value)[j]? := hBS.cell
      generalize vs.length = n0 at *
      clear hBP hBS hRP hRS hJ hlt hn3
      go_wp2_with fail
      go_ret
      exact ⟨rfl, hx⟩
end Go.Proofs.Ytopmhaebjpmbfaa
