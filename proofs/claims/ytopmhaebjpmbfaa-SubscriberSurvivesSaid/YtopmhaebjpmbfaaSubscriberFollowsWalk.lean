/- The walk of the statement SubscriberFollows. -/
import Derived.Test.YtopmhaebjpmbfaaSendP
import Derived.Test.YtopmhaebjpmbfaaSubK
import Derived.Test.YtopmhaebjpmbfaaWithin14
namespace Go.Proofs.Ytopmhaebjpmbfaa
open Go.RowKit
attribute [local go_sem ↓] Go.wp_at_zero Go.wp_at_succ

/-- The two variables' blocks. -/
def VV (a b : Nat) : Nat → Prop := fun g => g = a ∨ g = b
set_option maxRecDepth 100000 in
set_option maxHeartbeats 16000000 in
theorem follows_walk (x y : Int) (l : List (Int × Int)) (v : Value) (w : World) (hl : RF Any 2 inpE w v l) : Calls Try.prog 11 #[.int .i64 x, .int .i64 y, v] w fun e w' => e = .returned (.bool true) ∧ Ext w w' := by
  have HK := Lib.hid (fun w1 => known14_any w1)
  have HN := Lib.hid (fun w1 => newSub_any 3 4 w1)
  simp only [newSub] at HN
  have HW1 := Lib.hid (fun w1 => within14_any x 100 w1 (by omega) (by omega))
  have HW2 := Lib.hid (fun w1 => within14_any y 900 w1 (by omega) (by omega))
  have hf : 0 ≤ x % 100 ∧ x % 100 < 100 := by omega
  have hg : 0 ≤ y % 900 ∧ y % 900 < 900 := by omega
  generalize x % 100 = F0 at *
  generalize y % 900 = M0 at *
  obtain ⟨f1, f2⟩ := hf
  obtain ⟨g1, g2⟩ := hg
  have HNP := Lib.hid (fun w1 => new_any 3 (1 + F0) (1 + F0 + M0) 4 w1 (by omega) (by omega) (by omega) (by omega) (by omega) (by omega) (by omega) (by omega))
  simp only [newS] at HNP
  have HGN : Hid (Good 3 4 0 (newS 3 (1 + F0) (1 + F0 + M0) 4)) := Good.new (by omega) (by omega) (by omega)
  have e1 : IntKind.i64.wrap (1 + F0) = 1 + F0 := IntWalk.i64_in _ (by omega)
  have e2 : IntKind.i64.wrap (1 + F0 + M0) = 1 + F0 + M0 := IntWalk.i64_in _ (by omega)
  have HIN := Lib.hid (fun w1 (he : Ext w w1) => hl.ext he)
  obtain ⟨ia, ic, rfl, hi1, hi2⟩ := hl.form
  unfold maxLen at hi2
  clear hl
  generalize hln : l.length = ln at *
  have HLN := Lib.hid hln
  clear hln
  go_enter Try.func11, Try.ntmps11
  go_wp2_with fail
  refine (HK.out _).mono ?_
  rintro e w1 ⟨rfl, x1⟩
  go_wp2_with fail
  refine (HW1.out _).mono ?_
  rintro e wq ⟨rfl, rfl⟩
  go_wp2_with fail
  refine (HW2.out _).mono ?_
  rintro e wq ⟨rfl, rfl⟩
  go_wp2_with fail
  refine (HNP.out _).mono ?_
  rintro e w2 ⟨rfl, x2⟩
  have X2 := x1.trans x2
  have HBP := Lib.hid X2.size
  clear e1 e2 f1 f2 g1 g2 HW1 HW2 HNP
  generalize 1 + F0 + M0 = M at *
  generalize 1 + F0 = F at *
  go_upto_region 5 with fail
  have B2 := Lib.hid (Bk.new w2 #[.int .i64 3, .int .i64 F, .int .i64 M, .int .i64 4, .bool false, .int .i64 0, .int .i64 0, .int .i64 0, .int .i64 0, .int .i64 0, .int .i64 0, .int .i64 0, .slice none 0 0] 28 w2.heap.size rfl)
  have X3 := X2.alloc (.cells #[.int .i64 3, .int .i64 F, .int .i64 M, .int .i64 4, .bool false, .int .i64 0, .int .i64 0, .int .i64 0, .int .i64 0, .int .i64 0, .int .i64 0, .int .i64 0, .slice none 0 0] 28)
  generalize w2.alloc (.cells #[.int .i64 3, .int .i64 F, .int .i64 M, .int .i64 4, .bool false, .int .i64 0, .int .i64 0, .int .i64 0, .int .i64 0, .int .i64 0, .int .i64 0, .int .i64 0, .slice none 0 0] 28) = W at *
  generalize w2.heap.size = BP at *
  go_wp2_with fail
  refine (HN.out _).mono ?_
  rintro e w3 ⟨rfl, x3⟩
  have X4 := (X3.trans x3)
  have HBS := Lib.hid X4.size
  have B2' := B2.out.ext x3
  have hne : BP < w3.heap.size := B2'.lt
  clear B2
  have B2 := B2'.alloc (.cells #[.int .i64 3, .int .i64 4, .bool false, .int .i64 0, .int .i64 0, .int .i64 0, .int .i64 0, .bool false, .slice none 0 0] 50)
  clear B2'
  go_upto_region 6 with fail
  have B3 := Bk.new w3 #[.int .i64 3, .int .i64 4, .bool false, .int .i64 0, .int .i64 0, .int .i64 0, .int .i64 0, .bool false, .slice none 0 0] 50 w3.heap.size rfl
  replace X4 := X4.alloc (.cells #[.int .i64 3, .int .i64 4, .bool false, .int .i64 0, .int .i64 0, .int .i64 0, .int .i64 0, .bool false, .slice none 0 0] 50)
  generalize w3.alloc (.cells #[.int .i64 3, .int .i64 4, .bool false, .int .i64 0, .int .i64 0, .int .i64 0, .int .i64 0, .bool false, .slice none 0 0] 50) = W3 at *
  generalize w3.heap.size = BS at *
  clear X2 x1 x2 x3 X3 HK HN
  go_wp2_with fail
  go_loopw [10] (fun i wr => ∃ (k : Nat) (p : PSt) (s : SSt) (a : Option Addr) (c : Nat) (a0 : Option Addr) (c0 : Nat), (k ≤ ln ∧ k ≤ 300) ∧ i = .int .i64 k ∧ Frel k p s ∧ Bk wr BP 28 (pubC p (.slice a p.vals.length c)) ∧ Bk wr BS 50 (subC s (.slice a0 s.vals.length c0)) ∧ RF (VV BP BS) 6 valE wr (.slice a p.vals.length c) p.vals ∧ RF (VV BP BS) 6 valE wr (.slice a0 s.vals.length c0) s.vals ∧ Ext w wr) (fun i _ => 301 - (intOf i).toNat)
  case atStart => exact ⟨0, newS 3 F M 4, newSub 3 4, none, 0, none, 0, by omega, rfl, ⟨HGN.out, rfl, .inl ⟨rfl, rfl⟩⟩, B2, B3, RF.nil _ _ _ _, RF.nil _ _ _ _, X4⟩
  case round =>
    obtain ⟨k, p, s, a, c, a0, c0, ⟨hk, hk2⟩, rfl, hJ, hBP, hBS, hRP, hRS, hx⟩ := hrel
    clear B2 B3 X4
    by_cases hlt : k < ln ∧ k < 300
    · obtain ⟨hlt1, hlt2⟩ := hlt
      obtain ⟨x, hxk⟩ : ∃ x, l[k]? = some x := ⟨_, List.getElem?_eq_getElem (by rw [HLN.out]; exact hlt1)⟩
      obtain ⟨ib, io, ic', hv1, i0, i1⟩ := inp_get (HIN.out wr hx) hxk
      rw [HLN.out] at hv1
      simp only [Value.slice.injEq] at hv1
      obtain ⟨rfl, -, rfl⟩ := hv1
      have HXK := Lib.hid hxk
      clear hxk i1
      obtain ⟨x, xs⟩ := x
      simp only at i0
      have hki : (k : Int) < ln := by omega
      have hki2 : (k : Int) < 300 := by omega
      have HX := Lib.hid hx
      have hxs := hx.size
      have lP0 := hBP.lt
      have lS0 := hBS.lt
      have lI0 := World.block_lt_of_cell? wr _ i0
      have hV := vals_ok x
      have HV := Lib.hid (fun w1 => values_any x w1)
      obtain ⟨hF, hst, hvq⟩ := follow (L := valsOf x) (by omega) hV.1 hV.2 hJ
      have hG := hJ.1
      have hmod : Mod p := by
        have hb := hG.bnd
        have h0 : 0 ≤ p.state ∧ p.state ≤ 3000 ∧ 0 ≤ p.seq ∧ p.seq ≤ 3000 := by
          cases hs : p.started
          · have := hG.off hs; omega
          · have := hG.on hs; omega
        exact ⟨by omega, by omega, by omega⟩
      have hsn : s.left ≤ 1000000 ∧ s.vals.length ≤ 24 := by
        rcases hJ.2.2 with ⟨_, rfl⟩ | ⟨h1, h2⟩
        · decide
        · have := hG.on h1
          have := h2.left
          have := hG.f3
          rw [h2.vals]
          exact ⟨by omega, hG.vl⟩
      have HS := Lib.hid (fun w1 v u h1 h2 => send_any p s x false v u w1 h1 h2 (by have := hG.vl; omega) (by omega) hmod hsn.1 (by rw [hJ.2.1]; omega))
      have hnear : Near (sendPS p s (valsOf x) false).1 (sendPS p s (valsOf x) false).2 := by
        rcases hF.2.2 with ⟨h1, _⟩ | ⟨_, h2⟩
        · rw [hst] at h1; cases h1
        · exact h2
      have HVA := Lib.hid (fun v w1 => valid_any (sendPS p s (valsOf x) false).2 v w1)
      rw [near_valid hF.1 hst hnear] at HVA
      have hsv : (sendPS p s (valsOf x) false).2.vals = valsOf x := hnear.vals.trans hvq
      have hlo : (sendPS p s (valsOf x) false).2.lost = 0 := hF.2.1
      have HSV := Lib.hid (fun va vb w1 h h' => sameVals_any (valsOf x) (valsOf x) va vb w1 h h')
      simp only [decide_true] at HSV
      have HRPA := Lib.hid (fun w' (he : Ext wr w') => (hRP.ext he).weak (by omega) (V' := Any) (fun _ _ h => h.elim))
      have HRSA := Lib.hid (fun w' (he : Ext wr w') => (hRS.ext he).weak (by omega) (V' := Any) (fun _ _ h => h.elim))
      have HF := Lib.hid hF
      clear hF hst hvq hG hmod hsn hnear hJ hRP hRS hV hx
      generalize hz : sendPS p s (valsOf x) false = z at *
      clear hz
      obtain ⟨q, u⟩ := z
      simp only at HS HF HVA hsv hlo
      generalize valsOf x = L at *
      obtain ⟨p1, p2, p3, p4, p5, p6, p7, p8, p9, p10, p11, p12, vp⟩ := p
      obtain ⟨q1, q2, q3, q4, q5, q6, q7, q8, q9, q10, q11, q12, vq⟩ := q
      obtain ⟨s1, s2, s3, s4, s5, s6, s7, s8, vs⟩ := s
      obtain ⟨u1, u2, u3, u4, u5, u6, u7, u8, vu⟩ := u
      simp only at *
      subst hsv hlo
      generalize hn : vp.length = n at *
      have HNP := Lib.hid hn
      generalize hn0 : vs.length = n0 at *
      have HNS := Lib.hid hn0
      generalize hnq : vq.length = nq at *
      have HNQ := Lib.hid hnq
      generalize hnu : vu.length = nu at *
      have HNU := Lib.hid hnu
      clear hn hn0 hnq hnu
      have HPA : Hid (∀ w', Ext wr w' → Bk w' BP 28 #[.int .i64 p1, .int .i64 p2, .int .i64 p3, .int .i64 p4, .bool p5, .int .i64 p6, .int .i64 p7, .int .i64 p8, .int .i64 p9, .int .i64 p10, .int .i64 p11, .int .i64 p12, .slice a n c]) := fun w' he => hBP.ext he
      have HSA : Hid (∀ w', Ext wr w' → Bk w' BS 50 #[.int .i64 s1, .int .i64 s2, .bool s3, .int .i64 s4, .int .i64 s5, .int .i64 s6, .int .i64 s7, .bool s8, .slice a0 n0 c0]) := fun w' he => hBS.ext he
      have qp : ∀ j, wr.cell? ⟨BP, j, none⟩ = (#[.int .i64 p1, .int .i64 p2, .int .i64 p3, .int .i64 p4, .bool p5, .int .i64 p6, .int .i64 p7, .int .i64 p8, .int .i64 p9, .int .i64 p10, .int .i64 p11, .int .i64 p12, .slice a n c] : Array Value)[j]? := hBP.cell
      have qs : ∀ j, wr.cell? ⟨BS, j, none⟩ = (#[.int .i64 s1, .int .i64 s2, .bool s3, .int .i64 s4, .int .i64 s5, .int .i64 s6, .int .i64 s7, .bool s8, .slice a0 n0 c0] : Array Value)[j]? := hBS.cell
      clear hBP hBS
      go_upto_region 9 with fail
      go_cut [36] (fun _ wx => ∃ (a1 : Option Addr) (c1 : Nat) (a2 : Option Addr) (c2 : Nat), Bk wx BP 28 #[.int .i64 q1, .int .i64 q2, .int .i64 q3, .int .i64 q4, .bool q5, .int .i64 q6, .int .i64 q7, .int .i64 q8, .int .i64 q9, .int .i64 q10, .int .i64 q11, .int .i64 q12, .slice a1 nq c1] ∧ Bk wx BS 50 #[.int .i64 u1, .int .i64 u2, .bool u3, .int .i64 u4, .int .i64 u5, .int .i64 u6, .int .i64 0, .bool u8, .slice a2 nu c2] ∧ RF (VV BP BS) 6 valE wx (.slice a1 nq c1) vq ∧ RF (VV BP BS) 6 valE wx (.slice a2 nu c2) vu ∧ Ext w wx)
      case first =>
        go_region_with (go_at_call 41; (with_reducible refine (HS.out _ _ _ (HRPA.out _ (Ext.refl wr).drew) (HRSA.out _ (Ext.refl wr).drew)).mono ?_); rintro e w2 ⟨a1, c1, a2, c2, he, x2, r2, r2'⟩; simp only [HNQ.out, HNU.out] at he r2 r2'; subst he; have E2 : Ext wr w2 := (Ext.refl wr).drew.trans x2; have PP := Lib.hid (HPA.out _ E2); have PS := Lib.hid (HSA.out _ E2); have qp2 := PP.out.cell; have fp2 := PP.out.frozen; have qs2 := PS.out.cell; have fs2 := PS.out.frozen)
        all_goals
          clear qp2 fp2 qs2 fs2 qp qs
          first
          | (obtain ⟨w9, hW9⟩ : ∃ w9, (put (put w2 BP 0 [.int .i64 q1, .int .i64 q2, .int .i64 q3, .int .i64 q4, .bool q5, .int .i64 q6, .int .i64 q7, .int .i64 q8, .int .i64 q9, .int .i64 q10, .int .i64 q11, .int .i64 q12, .slice a1 nq c1]) BS 0 [.int .i64 u1, .int .i64 u2, .bool u3, .int .i64 u4, .int .i64 u5, .int .i64 u6, .int .i64 0, .bool u8, .slice a2 nu c2]) = w9 := ⟨_, rfl⟩
             have hW8 := hW9
             simp only [put, Nat.reduceAdd] at hW8
             rw [hW8]
             clear hW8
             have C1 := Lib.hid (put_other (B := BP) (B' := BS) (by omega) [.int .i64 u1, .int .i64 u2, .bool u3, .int .i64 u4, .int .i64 u5, .int .i64 u6, .int .i64 0, .bool u8, .slice a2 nu c2] 0 _ (put_all (vs := [.int .i64 q1, .int .i64 q2, .int .i64 q3, .int .i64 q4, .bool q5, .int .i64 q6, .int .i64 q7, .int .i64 q8, .int .i64 q9, .int .i64 q10, .int .i64 q11, .int .i64 q12, .slice a1 nq c1]) PP.out rfl))
             have C2 := Lib.hid (put_all (vs := [.int .i64 u1, .int .i64 u2, .bool u3, .int .i64 u4, .int .i64 u5, .int .i64 u6, .int .i64 0, .bool u8, .slice a2 nu c2]) (put_other (B := BS) (B' := BP) (by omega) [.int .i64 q1, .int .i64 q2, .int .i64 q3, .int .i64 q4, .bool q5, .int .i64 q6, .int .i64 q7, .int .i64 q8, .int .i64 q9, .int .i64 q10, .int .i64 q11, .int .i64 q12, .slice a1 nq c1] 0 _ PS.out) rfl)
             have X9 := Lib.hid (put_ext (a := w) (B := BS) HBS.out [.int .i64 u1, .int .i64 u2, .bool u3, .int .i64 u4, .int .i64 u5, .int .i64 u6, .int .i64 0, .bool u8, .slice a2 nu c2] 0 _ (put_ext (a := w) (B := BP) HBP.out [.int .i64 q1, .int .i64 q2, .int .i64 q3, .int .i64 q4, .bool q5, .int .i64 q6, .int .i64 q7, .int .i64 q8, .int .i64 q9, .int .i64 q10, .int .i64 q11, .int .i64 q12, .slice a1 nq c1] 0 _ (HX.out.trans E2)))
             have RP9 := Lib.hid (((r2.weak (by omega) (V' := VV BP BS) (fun g _ hg => hg.elim (fun e => by rw [e]; exact lP0) (fun e => by rw [e]; exact lS0))).agree (agree_put (V := VV BP BS) (B := BP) (.inl rfl) [.int .i64 q1, .int .i64 q2, .int .i64 q3, .int .i64 q4, .bool q5, .int .i64 q6, .int .i64 q7, .int .i64 q8, .int .i64 q9, .int .i64 q10, .int .i64 q11, .int .i64 q12, .slice a1 nq c1] 0 _)).agree (agree_put (V := VV BP BS) (B := BS) (.inr rfl) [.int .i64 u1, .int .i64 u2, .bool u3, .int .i64 u4, .int .i64 u5, .int .i64 u6, .int .i64 0, .bool u8, .slice a2 nu c2] 0 _))
             have RS9 := Lib.hid (((r2'.weak (by omega) (V' := VV BP BS) (fun g _ hg => hg.elim (fun e => by rw [e]; exact lP0) (fun e => by rw [e]; exact lS0))).agree (agree_put (V := VV BP BS) (B := BP) (.inl rfl) [.int .i64 q1, .int .i64 q2, .int .i64 q3, .int .i64 q4, .bool q5, .int .i64 q6, .int .i64 q7, .int .i64 q8, .int .i64 q9, .int .i64 q10, .int .i64 q11, .int .i64 q12, .slice a1 nq c1] 0 _)).agree (agree_put (V := VV BP BS) (B := BS) (.inr rfl) [.int .i64 u1, .int .i64 u2, .bool u3, .int .i64 u4, .int .i64 u5, .int .i64 u6, .int .i64 0, .bool u8, .slice a2 nu c2] 0 _))
             rw [hW9] at C1 C2 X9 RP9 RS9
             clear hW9
             have CP := C1; have CS := C2)
          | (obtain ⟨w9, hW9⟩ : ∃ w9, (put (put w2 BS 0 [.int .i64 u1, .int .i64 u2, .bool u3, .int .i64 u4, .int .i64 u5, .int .i64 u6, .int .i64 0, .bool u8, .slice a2 nu c2]) BP 0 [.int .i64 q1, .int .i64 q2, .int .i64 q3, .int .i64 q4, .bool q5, .int .i64 q6, .int .i64 q7, .int .i64 q8, .int .i64 q9, .int .i64 q10, .int .i64 q11, .int .i64 q12, .slice a1 nq c1]) = w9 := ⟨_, rfl⟩
             have hW8 := hW9
             simp only [put, Nat.reduceAdd] at hW8
             rw [hW8]
             clear hW8
             have C1 := Lib.hid (put_other (B := BS) (B' := BP) (by omega) [.int .i64 q1, .int .i64 q2, .int .i64 q3, .int .i64 q4, .bool q5, .int .i64 q6, .int .i64 q7, .int .i64 q8, .int .i64 q9, .int .i64 q10, .int .i64 q11, .int .i64 q12, .slice a1 nq c1] 0 _ (put_all (vs := [.int .i64 u1, .int .i64 u2, .bool u3, .int .i64 u4, .int .i64 u5, .int .i64 u6, .int .i64 0, .bool u8, .slice a2 nu c2]) PS.out rfl))
             have C2 := Lib.hid (put_all (vs := [.int .i64 q1, .int .i64 q2, .int .i64 q3, .int .i64 q4, .bool q5, .int .i64 q6, .int .i64 q7, .int .i64 q8, .int .i64 q9, .int .i64 q10, .int .i64 q11, .int .i64 q12, .slice a1 nq c1]) (put_other (B := BP) (B' := BS) (by omega) [.int .i64 u1, .int .i64 u2, .bool u3, .int .i64 u4, .int .i64 u5, .int .i64 u6, .int .i64 0, .bool u8, .slice a2 nu c2] 0 _ PP.out) rfl)
             have X9 := Lib.hid (put_ext (a := w) (B := BP) HBP.out [.int .i64 q1, .int .i64 q2, .int .i64 q3, .int .i64 q4, .bool q5, .int .i64 q6, .int .i64 q7, .int .i64 q8, .int .i64 q9, .int .i64 q10, .int .i64 q11, .int .i64 q12, .slice a1 nq c1] 0 _ (put_ext (a := w) (B := BS) HBS.out [.int .i64 u1, .int .i64 u2, .bool u3, .int .i64 u4, .int .i64 u5, .int .i64 u6, .int .i64 0, .bool u8, .slice a2 nu c2] 0 _ (HX.out.trans E2)))
             have RP9 := Lib.hid (((r2.weak (by omega) (V' := VV BP BS) (fun g _ hg => hg.elim (fun e => by rw [e]; exact lP0) (fun e => by rw [e]; exact lS0))).agree (agree_put (V := VV BP BS) (B := BS) (.inr rfl) [.int .i64 u1, .int .i64 u2, .bool u3, .int .i64 u4, .int .i64 u5, .int .i64 u6, .int .i64 0, .bool u8, .slice a2 nu c2] 0 _)).agree (agree_put (V := VV BP BS) (B := BP) (.inl rfl) [.int .i64 q1, .int .i64 q2, .int .i64 q3, .int .i64 q4, .bool q5, .int .i64 q6, .int .i64 q7, .int .i64 q8, .int .i64 q9, .int .i64 q10, .int .i64 q11, .int .i64 q12, .slice a1 nq c1] 0 _))
             have RS9 := Lib.hid (((r2'.weak (by omega) (V' := VV BP BS) (fun g _ hg => hg.elim (fun e => by rw [e]; exact lP0) (fun e => by rw [e]; exact lS0))).agree (agree_put (V := VV BP BS) (B := BS) (.inr rfl) [.int .i64 u1, .int .i64 u2, .bool u3, .int .i64 u4, .int .i64 u5, .int .i64 u6, .int .i64 0, .bool u8, .slice a2 nu c2] 0 _)).agree (agree_put (V := VV BP BS) (B := BP) (.inl rfl) [.int .i64 q1, .int .i64 q2, .int .i64 q3, .int .i64 q4, .bool q5, .int .i64 q6, .int .i64 q7, .int .i64 q8, .int .i64 q9, .int .i64 q10, .int .i64 q11, .int .i64 q12, .slice a1 nq c1] 0 _))
             rw [hW9] at C1 C2 X9 RP9 RS9
             clear hW9
             have CP := C2; have CS := C1)

          go_wp2_with fail
          go_meet
          exact ⟨a1, c1, a2, c2, CP.out, CS.out, RP9.out, RS9.out, X9.out⟩
      case rest =>
        obtain ⟨a1, c1, a2, c2, hP, hS, hRP, hRS, hx9⟩ := hcut
        obtain ⟨ib2, io2, ic2, hv2, i2, _⟩ := inp_get (HIN.out wc hx9) HXK.out
        rw [HLN.out] at hv2
        simp only [Value.slice.injEq, Option.some.injEq, Addr.mk.injEq] at hv2
        obtain ⟨⟨rfl, rfl, -⟩, -, -⟩ := hv2
        simp only at i2
        have qz := hS.cell
        have HS9 : Hid (∀ w', Ext wc w' → (∀ j, w'.cell? ⟨BS, j, none⟩ = (#[.int .i64 u1, .int .i64 u2, .bool u3, .int .i64 u4, .int .i64 u5, .int .i64 u6, .int .i64 0, .bool u8, .slice a2 nu c2] : Array Value)[j]?) ∧ w'.cell? ⟨ib, io + k * 2, none⟩ = some (.int .i64 x)) := fun w' he => ⟨(hS.ext he).cell, he.cell i2⟩
        have HRS9 := Lib.hid (fun w' (he : Ext wc w') => (hRS.ext he).weak (by omega) (V' := Any) (fun _ _ h => h.elim))
        have HP9 := Lib.hid hP
        have HSS9 := Lib.hid hS
        have HRP9 := Lib.hid hRP
        have HRQ9 := Lib.hid hRS
        have HX9 := Lib.hid hx9
        clear hP hS hRP hRS hx9 qp qs i0 HS HRPA HRSA HPA HSA
        go_upto_region 10 with fail
        go_region_held3 (fun w' => (∀ j, w'.cell? ⟨BS, j, none⟩ = (#[.int .i64 u1, .int .i64 u2, .bool u3, .int .i64 u4, .int .i64 u5, .int .i64 u6, .int .i64 0, .bool u8, .slice a2 nu c2] : Array Value)[j]?) ∧ w'.cell? ⟨ib, io + k * 2, none⟩ = some (.int .i64 x))
          (first | (with_reducible exact ⟨qz, i2⟩) | (exact HS9.out _ (by first | (with_reducible exact (Ext.refl wc).drew) | (with_reducible exact E4) | (with_reducible exact E5) | (with_reducible exact E6))) | fail)
          (first
            | (go_at_call 42; (with_reducible refine (HVA.out _ _).mono ?_); rintro e w4 ⟨rfl, x4⟩; have E4 : Ext wc w4 := (Ext.refl wc).drew.trans x4; clear x4)
            | (go_at_call 18; (with_reducible refine (HV.out _).mono ?_); rintro e w5 ⟨a5, c5, he, x5, r5⟩; rw [HNU.out] at he r5; subst he; have E5 : Ext wc w5 := E4.trans x5; have HR5 := Lib.hid (r5.weak (by omega) (V' := Any) (fun _ _ h => h.elim)); clear r5 x5)
            | (go_at_call 21; (with_reducible refine (HSV.out _ _ _ (HRS9.out _ E5) HR5.out).mono ?_); rintro e w6 ⟨rfl, x6⟩; have E6 : Ext wc w6 := E5.trans x6; clear x6)
            | fail)
        go_wp2_with fail
        go_roundw
        case rel => exact ⟨k + 1, ⟨q1, q2, q3, q4, q5, q6, q7, q8, q9, q10, q11, q12, vq⟩, ⟨u1, u2, u3, u4, u5, u6, 0, u8, vu⟩, a1, c1, a2, c2, by omega, by go_num, (by rw [show ((k + 1 : Nat) : Int) = (k : Int) + 1 by omega]; exact HF.out), by simp only [HNQ.out]; exact HP9.out.ext E6, by simp only [HNU.out]; exact HSS9.out.ext E6, by simp only [HNQ.out]; exact HRP9.out.ext E6, by simp only [HNU.out]; exact HRQ9.out.ext E6, HX9.out.trans E6⟩
        case measure => simp [intOf] <;> omega
    · have hend : ¬ ((k : Int) < ln) ∨ (((k : Int) < ln) ∧ ¬ ((k : Int) < 300)) := by omega
      clear hlt
      rcases hend with hd | ⟨hd, hd'⟩
      all_goals
        go_wp2_with fail
        go_ret
        exact ⟨rfl, hx⟩
end Go.Proofs.Ytopmhaebjpmbfaa
