/- The walk of the statement SubscriberConverges. -/
import Derived.Test.YtopmhaebjpmbfaaSendQ
import Derived.Test.YtopmhaebjpmbfaaSubK
import Derived.Test.YtopmhaebjpmbfaaSubscriberFollowsWalk
import Derived.Test.YtopmhaebjpmbfaaReg
import Derived.Test.YtopmhaebjpmbfaaOpenBool
namespace Go.Proofs.Ytopmhaebjpmbfaa
open Go.RowKit
attribute [local go_sem ↓] Go.wp_at_zero Go.wp_at_succ


theorem bool_get {V : Nat → Prop} {w : World} {v : Value} {l : List Bool} (h : RF V 1 boolE w v l) {i : Nat} {x : Bool} (hx : l[i]? = some x) : ∃ b off c, v = .slice (some ⟨b, off, none⟩) l.length c ∧ w.cell? ⟨b, off + i, none⟩ = some (.bool x) := by
  obtain ⟨b, off, c, hv, _, _, hc⟩ := h.get hx
  exact ⟨b, off, c, hv, by have := hc 0 _ rfl; rwa [Nat.mul_one, Nat.add_zero] at this⟩

theorem Crel.mono {N M : Int} {p : PSt} {s : SSt} (h : Crel N p s) (hM : N ≤ M) : Crel M p s :=
  ⟨⟨h.good.pub, h.good.rev, h.good.f1, h.good.f2, h.good.f3, h.good.st, h.good.ve, h.good.vl, h.good.off, fun hs => by have := h.good.on hs; omega⟩, h.m8, h.pub, h.rev, h.vl, h.o0, h.o1, h.l0, h.l1, h.test, fun hk => by
    obtain ⟨h1, h2, h3, h4, h5, h6⟩ := h.kn hk
    exact ⟨h1, h2, h3, h4, by omega, h6⟩⟩
theorem con_start {N : Int} {p : PSt} {s : SSt} (h : Crel N p s) (hs : p.started = true) : ((0 : Nat) : Int) ≤ p.since := by
  have := h.good.on hs
  omega
theorem con_end {N : Int} {p : PSt} {s : SSt} {L : List Val} (h : Crel N p s) (hs : p.started = true ∧ p.vals = L) (hn : Near p s ∨ ((8 : Nat) : Int) ≤ p.since) : Near p s := by
  rcases hn with hn | hn
  · exact hn
  · have := h.good.on hs.1
    have := h.m8
    omega
theorem con_round {j : Nat} {p : PSt} {s : SSt} {L : List Val} (hs : p.started = true ∧ p.vals = L) (hn : Near p s ∨ (j : Int) ≤ p.since)
    (h : Crel ((300 + (j : Int)) + 1) (sendPS p s L false).1 (sendPS p s L false).2 ∧ (sendPS p s L false).1.started = true ∧ (sendPS p s L false).1.vals = L ∧
      (false = false → (Near p s ∧ p.started = true ∧ p.vals = L → Near (sendPS p s L false).1 (sendPS p s L false).2) ∧ (Near (sendPS p s L false).1 (sendPS p s L false).2 ∨ (sendPS p s L false).1.since = p.since + 1))) :
    Crel (300 + ((j + 1 : Nat) : Int)) (sendPS p s L false).1 (sendPS p s L false).2 ∧ ((sendPS p s L false).1.started = true ∧ (sendPS p s L false).1.vals = L) ∧ (Near (sendPS p s L false).1 (sendPS p s L false).2 ∨ ((j + 1 : Nat) : Int) ≤ (sendPS p s L false).1.since) := by
  obtain ⟨h1, h2, h3, h4⟩ := h
  obtain ⟨h5, h6⟩ := h4 rfl
  refine ⟨h1.mono (by omega), ⟨h2, h3⟩, ?_⟩
  rcases hn with hn | hn
  · exact .inl (h5 ⟨hn, hs.1, hs.2⟩)
  · rcases h6 with h6 | h6
    · exact .inl h6
    · exact .inr (by omega)
/-- A subscriber that hears nothing. -/
def TickR (j : Nat) (s : SSt) : Prop := s.left ≤ 25 - j ∧ s.vals.length ≤ 24 ∧ 0 ≤ s.left
theorem tick_rel {j : Nat} {s : SSt} (hj : j < 25) (h : TickR j s) : TickR (j + 1) (tickS s) := by
  obtain ⟨h1, h2, h3⟩ := h
  unfold tickS
  split
  · exact ⟨by dsimp only; omega, h2, by dsimp only; omega⟩
  · exact ⟨by omega, h2, h3⟩
theorem tick_end {j : Nat} {s : SSt} (hj : 25 ≤ j) (h : TickR j s) : validS s = false := by
  obtain ⟨h1, h2, h3⟩ := h
  unfold validS
  rw [show decide (0 < s.left) = false by simp; omega]
  simp
set_option maxRecDepth 100000 in
theorem read_no (s : SSt) (v : Value) (i : Int) (w : World) (h : validS s = false) : Calls Try.prog 43 #[subA s v, .int .i64 i] w fun e w' => e = .returned (.tuple #[.agg #[.int .i64 0, .int .i64 0, .string ⟨#[]⟩, .int .i64 0, .int .i64 0, .int .i64 0], .bool false]) ∧ Ext w w' := by
  have HV := Lib.hid (fun w1 => valid_any s v w1)
  rw [h] at HV
  clear h
  obtain ⟨s1, s2, s3, s4, s5, s6, s7, s8, vs⟩ := s
  go_enter Try.func43, Try.ntmps43
  go_wp2_with fail
  refine (HV.out _).mono ?_
  rintro e w1 ⟨rfl, x1⟩
  have hB := (Bk.new (w.alloc (.cells #[.int .i64 s1, .int .i64 s2, .bool s3, .int .i64 s4, .int .i64 s5, .int .i64 s6, .int .i64 s7, .bool s8, v] 50)) #[.int .i64 0, .int .i64 0, .string ⟨#[]⟩, .int .i64 0, .int .i64 0, .int .i64 0] 47 (w.heap.size + 1) (by simp)).ext x1
  have X1 : Ext w w1 := (((Ext.refl w).alloc _).alloc _).trans x1
  have q1 := hB.cell
  have f1 := hB.frozen
  have HB := Lib.hid hB
  clear hB x1
  go_upto_region 2 with fail
  go_wp2_with fail
  have C := put_all (vs := [.int .i64 0, .int .i64 0, .string ⟨#[]⟩, .int .i64 0, .int .i64 0, .int .i64 0]) HB.out rfl
  have X2 := put_ext (a := w) (Nat.le_succ w.heap.size) [.int .i64 0, .int .i64 0, .string ⟨#[]⟩, .int .i64 0, .int .i64 0, .int .i64 0] 0 _ X1
  obtain ⟨w9, hW9⟩ : ∃ w9, put w1 (w.heap.size + 1) 0 [.int .i64 0, .int .i64 0, .string ⟨#[]⟩, .int .i64 0, .int .i64 0, .int .i64 0] = w9 := ⟨_, rfl⟩
  have hW8 := hW9
  simp only [put, Nat.reduceAdd] at hW8
  rw [hW8]
  rw [hW9] at C X2
  have c3 := C.cell
  clear q1 f1 hW8 hW9
  exact bodyPost_ret (v := .tuple #[.agg #[.int .i64 0, .int .i64 0, .string ⟨#[]⟩, .int .i64 0, .int .i64 0, .int .i64 0], .bool false]) (by simp [results, Try.results43, go_sem, c3]) rfl ⟨rfl, X2⟩
set_option maxRecDepth 100000 in
set_option maxHeartbeats 16000000 in
theorem converges_walk (l : List (Int × Int)) (lb : List Bool) (v vb : Value) (y : Int) (w : World) (hl : RF Any 2 inpE w v l) (hlb : RF Any 1 boolE w vb lb) : Calls Try.prog 13 #[v, vb, .int .i64 y] w fun e w' => e = .returned (.bool true) ∧ Ext w w' := by
  have HK := Lib.hid (fun w1 => known14_any w1)
  have HN := Lib.hid (fun w1 => newSub_any 3 4 w1)
  simp only [newSub] at HN
  have HNP := Lib.hid (fun w1 => new_any 3 2 8 4 w1 (by omega) (by omega) (by omega) (by omega) (by omega) (by omega) (by omega) (by omega))
  simp only [newS] at HNP
  have HIN := Lib.hid (fun w1 (he : Ext w w1) => hl.ext he)
  obtain ⟨ia, ic, rfl, hi1, hi2⟩ := hl.form
  unfold maxLen at hi2
  have HIB := Lib.hid (fun w1 (he : Ext w w1) => hlb.ext he)
  obtain ⟨ja, jc, rfl, hj1, hj2⟩ := hlb.form
  unfold maxLen at hj2
  clear hl hlb
  generalize hln : l.length = ln at *
  have HLN := Lib.hid hln
  generalize hlm : lb.length = lm at *
  have HLM := Lib.hid hlm
  clear hln hlm
  go_enter Try.func13, Try.ntmps13
  go_wp2_with fail
  refine (HK.out _).mono ?_
  rintro e w1 ⟨rfl, x1⟩
  go_wp2_with fail
  refine (HNP.out _).mono ?_
  rintro e w2 ⟨rfl, x2⟩
  have X2 := x1.trans x2
  have HBP := Lib.hid X2.size
  clear HNP
  go_upto_region 4 with fail
  have B2 := Lib.hid (Bk.new w2 #[.int .i64 3, .int .i64 2, .int .i64 8, .int .i64 4, .bool false, .int .i64 0, .int .i64 0, .int .i64 0, .int .i64 0, .int .i64 0, .int .i64 0, .int .i64 0, .slice none 0 0] 28 w2.heap.size rfl)
  have X3 := X2.alloc (.cells #[.int .i64 3, .int .i64 2, .int .i64 8, .int .i64 4, .bool false, .int .i64 0, .int .i64 0, .int .i64 0, .int .i64 0, .int .i64 0, .int .i64 0, .int .i64 0, .slice none 0 0] 28)
  generalize w2.alloc (.cells #[.int .i64 3, .int .i64 2, .int .i64 8, .int .i64 4, .bool false, .int .i64 0, .int .i64 0, .int .i64 0, .int .i64 0, .int .i64 0, .int .i64 0, .int .i64 0, .slice none 0 0] 28) = W at *
  generalize w2.heap.size = BP at *
  go_wp2_with fail
  refine (HN.out _).mono ?_
  rintro e w3 ⟨rfl, x3⟩
  have X4 := (X3.trans x3)
  have HBS := Lib.hid X4.size
  have B2' := B2.out.ext x3
  have hne : BP < w3.heap.size := B2'.lt
  clear B2
  have B2 := B2'.alloc (.cells #[.int .i64 3, .int .i64 4, .bool false, .int .i64 0, .int .i64 0, .int .i64 0, .int .i64 0, .bool false, .slice none 0 0] 50)
  clear B2'
  go_upto_region 5 with fail
  have B3 := Bk.new w3 #[.int .i64 3, .int .i64 4, .bool false, .int .i64 0, .int .i64 0, .int .i64 0, .int .i64 0, .bool false, .slice none 0 0] 50 w3.heap.size rfl
  replace X4 := X4.alloc (.cells #[.int .i64 3, .int .i64 4, .bool false, .int .i64 0, .int .i64 0, .int .i64 0, .int .i64 0, .bool false, .slice none 0 0] 50)
  generalize w3.alloc (.cells #[.int .i64 3, .int .i64 4, .bool false, .int .i64 0, .int .i64 0, .int .i64 0, .int .i64 0, .bool false, .slice none 0 0] 50) = W3 at *
  generalize w3.heap.size = BS at *
  clear X2 x1 x2 x3 X3 HK HN
  go_wp2_with fail
  go_loopw [10] (fun i wr => ∃ (k : Nat) (p : PSt) (s : SSt) (a : Option Addr) (c : Nat) (a0 : Option Addr) (c0 : Nat), (k ≤ ln ∧ k ≤ 200) ∧ i = .int .i64 k ∧ Crel k p s ∧ Bk wr BP 28 (pubC p (.slice a p.vals.length c)) ∧ Bk wr BS 50 (subC s (.slice a0 s.vals.length c0)) ∧ RF (VV BP BS) 6 valE wr (.slice a p.vals.length c) p.vals ∧ RF (VV BP BS) 6 valE wr (.slice a0 s.vals.length c0) s.vals ∧ Ext w wr) (fun i _ => 201 - (intOf i).toNat)
  case atStart => exact ⟨0, newS 3 2 8 4, newSub 3 4, none, 0, none, 0, by omega, rfl, crel_new 8 (by omega) (by omega), B2, B3, RF.nil _ _ _ _, RF.nil _ _ _ _, X4⟩
  case round =>
    obtain ⟨k, p, s, a, c, a0, c0, ⟨hk, hk2⟩, rfl, hJ, hBP, hBS, hRP, hRS, hx⟩ := hrel
    clear B2 B3 X4
    by_cases hlt : k < ln ∧ k < 200
    · obtain ⟨hlt1, hlt2⟩ := hlt
      obtain ⟨x, hxk⟩ : ∃ x, l[k]? = some x := ⟨_, List.getElem?_eq_getElem (by rw [HLN.out]; exact hlt1)⟩
      obtain ⟨ib, io, ic', hv1, i0, i1⟩ := inp_get (HIN.out wr hx) hxk
      rw [HLN.out] at hv1
      simp only [Value.slice.injEq] at hv1
      obtain ⟨rfl, -, rfl⟩ := hv1
      clear hxk i1
      obtain ⟨x, xs⟩ := x
      simp only at i0
      have hki : (k : Int) < ln := by omega
      have hki2 : (k : Int) < 200 := by omega
      have lI0 := World.block_lt_of_cell? wr _ i0
      by_cases hb : k < lm
      · obtain ⟨b, hbk⟩ : ∃ x, lb[k]? = some x := ⟨_, List.getElem?_eq_getElem (by rw [HLM.out]; exact hb)⟩
        obtain ⟨jb, jo, jc', hv2, j0⟩ := bool_get (HIB.out wr hx) hbk
        rw [HLM.out] at hv2
        simp only [Value.slice.injEq] at hv2
        obtain ⟨rfl, -, rfl⟩ := hv2
        clear hbk
        have hkb : (k : Int) < lm := by omega
        have hkd : decide (k < lm) = true := by simpa using hb
        have lJ0 := World.block_lt_of_cell? wr _ j0
        clear hb
        have HX := Lib.hid hx
        have lP0 := hBP.lt
        have lS0 := hBS.lt
        have hV := vals_ok x
        have hst4 := crel_step (L := valsOf x) b (by omega) hV.1 hV.2 hJ
        have hG := hJ.good
        have hmod : Mod p := by
          have hb := hG.bnd
          have h0 : 0 ≤ p.state ∧ p.state ≤ 3000 ∧ 0 ≤ p.seq ∧ p.seq ≤ 3000 := by
            cases hs : p.started
            · have := hG.off hs; omega
            · have := hG.on hs; omega
          exact ⟨by omega, by omega, by omega⟩
        have HS := Lib.hid (fun w1 v u h1 h2 => send_any p s x b v u w1 h1 h2 (by have := hG.vl; omega) (by have := hJ.vl; omega) hmod (by have := hJ.l1; omega) (by have := hJ.o0; have := hJ.o1; omega))
        have HRPA := Lib.hid (fun w' (he : Ext wr w') => (hRP.ext he).weak (by omega) (V' := Any) (fun _ _ h => h.elim))
        have HRSA := Lib.hid (fun w' (he : Ext wr w') => (hRS.ext he).weak (by omega) (V' := Any) (fun _ _ h => h.elim))
        have HF := Lib.hid hst4
        clear hst4 hG hmod hJ hRP hRS hV hx
        generalize hz : sendPS p s (valsOf x) b = z at *
        clear hz
        obtain ⟨q, u⟩ := z
        simp only at HS HF
        obtain ⟨p1, p2, p3, p4, p5, p6, p7, p8, p9, p10, p11, p12, vp⟩ := p
        obtain ⟨q1, q2, q3, q4, q5, q6, q7, q8, q9, q10, q11, q12, vq⟩ := q
        obtain ⟨s1, s2, s3, s4, s5, s6, s7, s8, vs⟩ := s
        obtain ⟨u1, u2, u3, u4, u5, u6, u7, u8, vu⟩ := u
        simp only at *
        generalize hn : vp.length = n at *
        have HNP := Lib.hid hn
        generalize hn0 : vs.length = n0 at *
        have HNS := Lib.hid hn0
        generalize hnq : vq.length = nq at *
        have HNQ := Lib.hid hnq
        generalize hnu : vu.length = nu at *
        have HNU := Lib.hid hnu
        clear hn hn0 hnq hnu
        have HPA : Hid (∀ w', Ext wr w' → Bk w' BP 28 #[.int .i64 p1, .int .i64 p2, .int .i64 p3, .int .i64 p4, .bool p5, .int .i64 p6, .int .i64 p7, .int .i64 p8, .int .i64 p9, .int .i64 p10, .int .i64 p11, .int .i64 p12, .slice a n c]) := fun w' he => hBP.ext he
        have HSA : Hid (∀ w', Ext wr w' → Bk w' BS 50 #[.int .i64 s1, .int .i64 s2, .bool s3, .int .i64 s4, .int .i64 s5, .int .i64 s6, .int .i64 s7, .bool s8, .slice a0 n0 c0]) := fun w' he => hBS.ext he
        have qp : ∀ j, wr.cell? ⟨BP, j, none⟩ = (#[.int .i64 p1, .int .i64 p2, .int .i64 p3, .int .i64 p4, .bool p5, .int .i64 p6, .int .i64 p7, .int .i64 p8, .int .i64 p9, .int .i64 p10, .int .i64 p11, .int .i64 p12, .slice a n c] : Array Value)[j]? := hBP.cell
        have qs : ∀ j, wr.cell? ⟨BS, j, none⟩ = (#[.int .i64 s1, .int .i64 s2, .bool s3, .int .i64 s4, .int .i64 s5, .int .i64 s6, .int .i64 s7, .bool s8, .slice a0 n0 c0] : Array Value)[j]? := hBS.cell
        clear hBP hBS
        go_upto_region 8 with fail
        refine wp_region_callN 17 (by kernel_rfl) (by kernel_rfl) ?_
        simp only [List.take_succ_cons, List.take_zero, List.drop_succ_cons, List.drop_zero]
        repeat still_step
        refine wpStill_nil ?_
        go_wp2_with (go_at_call 41; (with_reducible refine (HS.out _ _ _ (HRPA.out _ (Ext.refl wr).drew) (HRSA.out _ (Ext.refl wr).drew)).mono ?_); rintro e w2 ⟨a1, c1, a2, c2, he, x2, r2, r2'⟩; simp only [HNQ.out, HNU.out] at he r2 r2'; subst he; have E2 : Ext wr w2 := (Ext.refl wr).drew.trans x2; have PP := Lib.hid (HPA.out _ E2); have PS := Lib.hid (HSA.out _ E2); have qp2 := PP.out.cell; have fp2 := PP.out.frozen; have qs2 := PS.out.cell; have fs2 := PS.out.frozen)
        refine NoPanic.normal ?_
        clear qp2 fp2 qs2 fs2 qp qs
        first
        | (obtain ⟨w9, hW9⟩ : ∃ w9, (put (put w2 BP 0 [.int .i64 q1, .int .i64 q2, .int .i64 q3, .int .i64 q4, .bool q5, .int .i64 q6, .int .i64 q7, .int .i64 q8, .int .i64 q9, .int .i64 q10, .int .i64 q11, .int .i64 q12, .slice a1 nq c1]) BS 0 [.int .i64 u1, .int .i64 u2, .bool u3, .int .i64 u4, .int .i64 u5, .int .i64 u6, .int .i64 u7, .bool u8, .slice a2 nu c2]) = w9 := ⟨_, rfl⟩
           have hW8 := hW9
           simp only [put, Nat.reduceAdd] at hW8
           rw [hW8]
           clear hW8
           have C1 := Lib.hid (put_other (B := BP) (B' := BS) (by omega) [.int .i64 u1, .int .i64 u2, .bool u3, .int .i64 u4, .int .i64 u5, .int .i64 u6, .int .i64 u7, .bool u8, .slice a2 nu c2] 0 _ (put_all (vs := [.int .i64 q1, .int .i64 q2, .int .i64 q3, .int .i64 q4, .bool q5, .int .i64 q6, .int .i64 q7, .int .i64 q8, .int .i64 q9, .int .i64 q10, .int .i64 q11, .int .i64 q12, .slice a1 nq c1]) PP.out rfl))
           have C2 := Lib.hid (put_all (vs := [.int .i64 u1, .int .i64 u2, .bool u3, .int .i64 u4, .int .i64 u5, .int .i64 u6, .int .i64 u7, .bool u8, .slice a2 nu c2]) (put_other (B := BS) (B' := BP) (by omega) [.int .i64 q1, .int .i64 q2, .int .i64 q3, .int .i64 q4, .bool q5, .int .i64 q6, .int .i64 q7, .int .i64 q8, .int .i64 q9, .int .i64 q10, .int .i64 q11, .int .i64 q12, .slice a1 nq c1] 0 _ PS.out) rfl)
           have X9 := Lib.hid (put_ext (a := w) (B := BS) HBS.out [.int .i64 u1, .int .i64 u2, .bool u3, .int .i64 u4, .int .i64 u5, .int .i64 u6, .int .i64 u7, .bool u8, .slice a2 nu c2] 0 _ (put_ext (a := w) (B := BP) HBP.out [.int .i64 q1, .int .i64 q2, .int .i64 q3, .int .i64 q4, .bool q5, .int .i64 q6, .int .i64 q7, .int .i64 q8, .int .i64 q9, .int .i64 q10, .int .i64 q11, .int .i64 q12, .slice a1 nq c1] 0 _ (HX.out.trans E2)))
           have RP9 := Lib.hid (((r2.weak (by omega) (V' := VV BP BS) (fun g _ hg => hg.elim (fun e => by rw [e]; exact lP0) (fun e => by rw [e]; exact lS0))).agree (agree_put (V := VV BP BS) (B := BP) (.inl rfl) [.int .i64 q1, .int .i64 q2, .int .i64 q3, .int .i64 q4, .bool q5, .int .i64 q6, .int .i64 q7, .int .i64 q8, .int .i64 q9, .int .i64 q10, .int .i64 q11, .int .i64 q12, .slice a1 nq c1] 0 _)).agree (agree_put (V := VV BP BS) (B := BS) (.inr rfl) [.int .i64 u1, .int .i64 u2, .bool u3, .int .i64 u4, .int .i64 u5, .int .i64 u6, .int .i64 u7, .bool u8, .slice a2 nu c2] 0 _))
           have RS9 := Lib.hid (((r2'.weak (by omega) (V' := VV BP BS) (fun g _ hg => hg.elim (fun e => by rw [e]; exact lP0) (fun e => by rw [e]; exact lS0))).agree (agree_put (V := VV BP BS) (B := BP) (.inl rfl) [.int .i64 q1, .int .i64 q2, .int .i64 q3, .int .i64 q4, .bool q5, .int .i64 q6, .int .i64 q7, .int .i64 q8, .int .i64 q9, .int .i64 q10, .int .i64 q11, .int .i64 q12, .slice a1 nq c1] 0 _)).agree (agree_put (V := VV BP BS) (B := BS) (.inr rfl) [.int .i64 u1, .int .i64 u2, .bool u3, .int .i64 u4, .int .i64 u5, .int .i64 u6, .int .i64 u7, .bool u8, .slice a2 nu c2] 0 _))
           rw [hW9] at C1 C2 X9 RP9 RS9
           clear hW9
           have CP := C1; have CS := C2)
        | (obtain ⟨w9, hW9⟩ : ∃ w9, (put (put w2 BS 0 [.int .i64 u1, .int .i64 u2, .bool u3, .int .i64 u4, .int .i64 u5, .int .i64 u6, .int .i64 u7, .bool u8, .slice a2 nu c2]) BP 0 [.int .i64 q1, .int .i64 q2, .int .i64 q3, .int .i64 q4, .bool q5, .int .i64 q6, .int .i64 q7, .int .i64 q8, .int .i64 q9, .int .i64 q10, .int .i64 q11, .int .i64 q12, .slice a1 nq c1]) = w9 := ⟨_, rfl⟩
           have hW8 := hW9
           simp only [put, Nat.reduceAdd] at hW8
           rw [hW8]
           clear hW8
           have C1 := Lib.hid (put_other (B := BS) (B' := BP) (by omega) [.int .i64 q1, .int .i64 q2, .int .i64 q3, .int .i64 q4, .bool q5, .int .i64 q6, .int .i64 q7, .int .i64 q8, .int .i64 q9, .int .i64 q10, .int .i64 q11, .int .i64 q12, .slice a1 nq c1] 0 _ (put_all (vs := [.int .i64 u1, .int .i64 u2, .bool u3, .int .i64 u4, .int .i64 u5, .int .i64 u6, .int .i64 u7, .bool u8, .slice a2 nu c2]) PS.out rfl))
           have C2 := Lib.hid (put_all (vs := [.int .i64 q1, .int .i64 q2, .int .i64 q3, .int .i64 q4, .bool q5, .int .i64 q6, .int .i64 q7, .int .i64 q8, .int .i64 q9, .int .i64 q10, .int .i64 q11, .int .i64 q12, .slice a1 nq c1]) (put_other (B := BP) (B' := BS) (by omega) [.int .i64 u1, .int .i64 u2, .bool u3, .int .i64 u4, .int .i64 u5, .int .i64 u6, .int .i64 u7, .bool u8, .slice a2 nu c2] 0 _ PP.out) rfl)
           have X9 := Lib.hid (put_ext (a := w) (B := BP) HBP.out [.int .i64 q1, .int .i64 q2, .int .i64 q3, .int .i64 q4, .bool q5, .int .i64 q6, .int .i64 q7, .int .i64 q8, .int .i64 q9, .int .i64 q10, .int .i64 q11, .int .i64 q12, .slice a1 nq c1] 0 _ (put_ext (a := w) (B := BS) HBS.out [.int .i64 u1, .int .i64 u2, .bool u3, .int .i64 u4, .int .i64 u5, .int .i64 u6, .int .i64 u7, .bool u8, .slice a2 nu c2] 0 _ (HX.out.trans E2)))
           have RP9 := Lib.hid (((r2.weak (by omega) (V' := VV BP BS) (fun g _ hg => hg.elim (fun e => by rw [e]; exact lP0) (fun e => by rw [e]; exact lS0))).agree (agree_put (V := VV BP BS) (B := BS) (.inr rfl) [.int .i64 u1, .int .i64 u2, .bool u3, .int .i64 u4, .int .i64 u5, .int .i64 u6, .int .i64 u7, .bool u8, .slice a2 nu c2] 0 _)).agree (agree_put (V := VV BP BS) (B := BP) (.inl rfl) [.int .i64 q1, .int .i64 q2, .int .i64 q3, .int .i64 q4, .bool q5, .int .i64 q6, .int .i64 q7, .int .i64 q8, .int .i64 q9, .int .i64 q10, .int .i64 q11, .int .i64 q12, .slice a1 nq c1] 0 _))
           have RS9 := Lib.hid (((r2'.weak (by omega) (V' := VV BP BS) (fun g _ hg => hg.elim (fun e => by rw [e]; exact lP0) (fun e => by rw [e]; exact lS0))).agree (agree_put (V := VV BP BS) (B := BS) (.inr rfl) [.int .i64 u1, .int .i64 u2, .bool u3, .int .i64 u4, .int .i64 u5, .int .i64 u6, .int .i64 u7, .bool u8, .slice a2 nu c2] 0 _)).agree (agree_put (V := VV BP BS) (B := BP) (.inl rfl) [.int .i64 q1, .int .i64 q2, .int .i64 q3, .int .i64 q4, .bool q5, .int .i64 q6, .int .i64 q7, .int .i64 q8, .int .i64 q9, .int .i64 q10, .int .i64 q11, .int .i64 q12, .slice a1 nq c1] 0 _))
           rw [hW9] at C1 C2 X9 RP9 RS9
           clear hW9
           have CP := C2; have CS := C1)

        go_wp2_with fail
        go_roundw
        case rel => exact ⟨k + 1, ⟨q1, q2, q3, q4, q5, q6, q7, q8, q9, q10, q11, q12, vq⟩, ⟨u1, u2, u3, u4, u5, u6, u7, u8, vu⟩, a1, c1, a2, c2, by omega, by go_num, (by rw [show ((k + 1 : Nat) : Int) = (k : Int) + 1 by omega]; exact HF.out.1), by simp only [HNQ.out]; exact CP.out, by simp only [HNU.out]; exact CS.out, by simp only [HNQ.out]; exact RP9.out, by simp only [HNU.out]; exact RS9.out, X9.out⟩
        case measure => simp [intOf] <;> omega
      · have hkb : ¬ (k : Int) < lm := by omega
        have hkd : decide (k < lm) = false := by simpa using hb
        clear hb
        have HX := Lib.hid hx
        have lP0 := hBP.lt
        have lS0 := hBS.lt
        have hV := vals_ok x
        have hst4 := crel_step (L := valsOf x) false (by omega) hV.1 hV.2 hJ
        have hG := hJ.good
        have hmod : Mod p := by
          have hb := hG.bnd
          have h0 : 0 ≤ p.state ∧ p.state ≤ 3000 ∧ 0 ≤ p.seq ∧ p.seq ≤ 3000 := by
            cases hs : p.started
            · have := hG.off hs; omega
            · have := hG.on hs; omega
          exact ⟨by omega, by omega, by omega⟩
        have HS := Lib.hid (fun w1 v u h1 h2 => send_any p s x false v u w1 h1 h2 (by have := hG.vl; omega) (by have := hJ.vl; omega) hmod (by have := hJ.l1; omega) (by have := hJ.o0; have := hJ.o1; omega))
        have HRPA := Lib.hid (fun w' (he : Ext wr w') => (hRP.ext he).weak (by omega) (V' := Any) (fun _ _ h => h.elim))
        have HRSA := Lib.hid (fun w' (he : Ext wr w') => (hRS.ext he).weak (by omega) (V' := Any) (fun _ _ h => h.elim))
        have HF := Lib.hid hst4
        clear hst4 hG hmod hJ hRP hRS hV hx
        generalize hz : sendPS p s (valsOf x) false = z at *
        clear hz
        obtain ⟨q, u⟩ := z
        simp only at HS HF
        obtain ⟨p1, p2, p3, p4, p5, p6, p7, p8, p9, p10, p11, p12, vp⟩ := p
        obtain ⟨q1, q2, q3, q4, q5, q6, q7, q8, q9, q10, q11, q12, vq⟩ := q
        obtain ⟨s1, s2, s3, s4, s5, s6, s7, s8, vs⟩ := s
        obtain ⟨u1, u2, u3, u4, u5, u6, u7, u8, vu⟩ := u
        simp only at *
        generalize hn : vp.length = n at *
        have HNP := Lib.hid hn
        generalize hn0 : vs.length = n0 at *
        have HNS := Lib.hid hn0
        generalize hnq : vq.length = nq at *
        have HNQ := Lib.hid hnq
        generalize hnu : vu.length = nu at *
        have HNU := Lib.hid hnu
        clear hn hn0 hnq hnu
        have HPA : Hid (∀ w', Ext wr w' → Bk w' BP 28 #[.int .i64 p1, .int .i64 p2, .int .i64 p3, .int .i64 p4, .bool p5, .int .i64 p6, .int .i64 p7, .int .i64 p8, .int .i64 p9, .int .i64 p10, .int .i64 p11, .int .i64 p12, .slice a n c]) := fun w' he => hBP.ext he
        have HSA : Hid (∀ w', Ext wr w' → Bk w' BS 50 #[.int .i64 s1, .int .i64 s2, .bool s3, .int .i64 s4, .int .i64 s5, .int .i64 s6, .int .i64 s7, .bool s8, .slice a0 n0 c0]) := fun w' he => hBS.ext he
        have qp : ∀ j, wr.cell? ⟨BP, j, none⟩ = (#[.int .i64 p1, .int .i64 p2, .int .i64 p3, .int .i64 p4, .bool p5, .int .i64 p6, .int .i64 p7, .int .i64 p8, .int .i64 p9, .int .i64 p10, .int .i64 p11, .int .i64 p12, .slice a n c] : Array Value)[j]? := hBP.cell
        have qs : ∀ j, wr.cell? ⟨BS, j, none⟩ = (#[.int .i64 s1, .int .i64 s2, .bool s3, .int .i64 s4, .int .i64 s5, .int .i64 s6, .int .i64 s7, .bool s8, .slice a0 n0 c0] : Array Value)[j]? := hBS.cell
        clear hBP hBS
        go_upto_region 8 with fail
        refine wp_region_callN 17 (by kernel_rfl) (by kernel_rfl) ?_
        simp only [List.take_succ_cons, List.take_zero, List.drop_succ_cons, List.drop_zero]
        repeat still_step
        refine wpStill_nil ?_
        go_wp2_with (go_at_call 41; (with_reducible refine (HS.out _ _ _ (HRPA.out _ (Ext.refl wr).drew) (HRSA.out _ (Ext.refl wr).drew)).mono ?_); rintro e w2 ⟨a1, c1, a2, c2, he, x2, r2, r2'⟩; simp only [HNQ.out, HNU.out] at he r2 r2'; subst he; have E2 : Ext wr w2 := (Ext.refl wr).drew.trans x2; have PP := Lib.hid (HPA.out _ E2); have PS := Lib.hid (HSA.out _ E2); have qp2 := PP.out.cell; have fp2 := PP.out.frozen; have qs2 := PS.out.cell; have fs2 := PS.out.frozen)
        refine NoPanic.normal ?_
        clear qp2 fp2 qs2 fs2 qp qs
        first
        | (obtain ⟨w9, hW9⟩ : ∃ w9, (put (put w2 BP 0 [.int .i64 q1, .int .i64 q2, .int .i64 q3, .int .i64 q4, .bool q5, .int .i64 q6, .int .i64 q7, .int .i64 q8, .int .i64 q9, .int .i64 q10, .int .i64 q11, .int .i64 q12, .slice a1 nq c1]) BS 0 [.int .i64 u1, .int .i64 u2, .bool u3, .int .i64 u4, .int .i64 u5, .int .i64 u6, .int .i64 u7, .bool u8, .slice a2 nu c2]) = w9 := ⟨_, rfl⟩
           have hW8 := hW9
           simp only [put, Nat.reduceAdd] at hW8
           rw [hW8]
           clear hW8
           have C1 := Lib.hid (put_other (B := BP) (B' := BS) (by omega) [.int .i64 u1, .int .i64 u2, .bool u3, .int .i64 u4, .int .i64 u5, .int .i64 u6, .int .i64 u7, .bool u8, .slice a2 nu c2] 0 _ (put_all (vs := [.int .i64 q1, .int .i64 q2, .int .i64 q3, .int .i64 q4, .bool q5, .int .i64 q6, .int .i64 q7, .int .i64 q8, .int .i64 q9, .int .i64 q10, .int .i64 q11, .int .i64 q12, .slice a1 nq c1]) PP.out rfl))
           have C2 := Lib.hid (put_all (vs := [.int .i64 u1, .int .i64 u2, .bool u3, .int .i64 u4, .int .i64 u5, .int .i64 u6, .int .i64 u7, .bool u8, .slice a2 nu c2]) (put_other (B := BS) (B' := BP) (by omega) [.int .i64 q1, .int .i64 q2, .int .i64 q3, .int .i64 q4, .bool q5, .int .i64 q6, .int .i64 q7, .int .i64 q8, .int .i64 q9, .int .i64 q10, .int .i64 q11, .int .i64 q12, .slice a1 nq c1] 0 _ PS.out) rfl)
           have X9 := Lib.hid (put_ext (a := w) (B := BS) HBS.out [.int .i64 u1, .int .i64 u2, .bool u3, .int .i64 u4, .int .i64 u5, .int .i64 u6, .int .i64 u7, .bool u8, .slice a2 nu c2] 0 _ (put_ext (a := w) (B := BP) HBP.out [.int .i64 q1, .int .i64 q2, .int .i64 q3, .int .i64 q4, .bool q5, .int .i64 q6, .int .i64 q7, .int .i64 q8, .int .i64 q9, .int .i64 q10, .int .i64 q11, .int .i64 q12, .slice a1 nq c1] 0 _ (HX.out.trans E2)))
           have RP9 := Lib.hid (((r2.weak (by omega) (V' := VV BP BS) (fun g _ hg => hg.elim (fun e => by rw [e]; exact lP0) (fun e => by rw [e]; exact lS0))).agree (agree_put (V := VV BP BS) (B := BP) (.inl rfl) [.int .i64 q1, .int .i64 q2, .int .i64 q3, .int .i64 q4, .bool q5, .int .i64 q6, .int .i64 q7, .int .i64 q8, .int .i64 q9, .int .i64 q10, .int .i64 q11, .int .i64 q12, .slice a1 nq c1] 0 _)).agree (agree_put (V := VV BP BS) (B := BS) (.inr rfl) [.int .i64 u1, .int .i64 u2, .bool u3, .int .i64 u4, .int .i64 u5, .int .i64 u6, .int .i64 u7, .bool u8, .slice a2 nu c2] 0 _))
           have RS9 := Lib.hid (((r2'.weak (by omega) (V' := VV BP BS) (fun g _ hg => hg.elim (fun e => by rw [e]; exact lP0) (fun e => by rw [e]; exact lS0))).agree (agree_put (V := VV BP BS) (B := BP) (.inl rfl) [.int .i64 q1, .int .i64 q2, .int .i64 q3, .int .i64 q4, .bool q5, .int .i64 q6, .int .i64 q7, .int .i64 q8, .int .i64 q9, .int .i64 q10, .int .i64 q11, .int .i64 q12, .slice a1 nq c1] 0 _)).agree (agree_put (V := VV BP BS) (B := BS) (.inr rfl) [.int .i64 u1, .int .i64 u2, .bool u3, .int .i64 u4, .int .i64 u5, .int .i64 u6, .int .i64 u7, .bool u8, .slice a2 nu c2] 0 _))
           rw [hW9] at C1 C2 X9 RP9 RS9
           clear hW9
           have CP := C1; have CS := C2)
        | (obtain ⟨w9, hW9⟩ : ∃ w9, (put (put w2 BS 0 [.int .i64 u1, .int .i64 u2, .bool u3, .int .i64 u4, .int .i64 u5, .int .i64 u6, .int .i64 u7, .bool u8, .slice a2 nu c2]) BP 0 [.int .i64 q1, .int .i64 q2, .int .i64 q3, .int .i64 q4, .bool q5, .int .i64 q6, .int .i64 q7, .int .i64 q8, .int .i64 q9, .int .i64 q10, .int .i64 q11, .int .i64 q12, .slice a1 nq c1]) = w9 := ⟨_, rfl⟩
           have hW8 := hW9
           simp only [put, Nat.reduceAdd] at hW8
           rw [hW8]
           clear hW8
           have C1 := Lib.hid (put_other (B := BS) (B' := BP) (by omega) [.int .i64 q1, .int .i64 q2, .int .i64 q3, .int .i64 q4, .bool q5, .int .i64 q6, .int .i64 q7, .int .i64 q8, .int .i64 q9, .int .i64 q10, .int .i64 q11, .int .i64 q12, .slice a1 nq c1] 0 _ (put_all (vs := [.int .i64 u1, .int .i64 u2, .bool u3, .int .i64 u4, .int .i64 u5, .int .i64 u6, .int .i64 u7, .bool u8, .slice a2 nu c2]) PS.out rfl))
           have C2 := Lib.hid (put_all (vs := [.int .i64 q1, .int .i64 q2, .int .i64 q3, .int .i64 q4, .bool q5, .int .i64 q6, .int .i64 q7, .int .i64 q8, .int .i64 q9, .int .i64 q10, .int .i64 q11, .int .i64 q12, .slice a1 nq c1]) (put_other (B := BP) (B' := BS) (by omega) [.int .i64 u1, .int .i64 u2, .bool u3, .int .i64 u4, .int .i64 u5, .int .i64 u6, .int .i64 u7, .bool u8, .slice a2 nu c2] 0 _ PP.out) rfl)
           have X9 := Lib.hid (put_ext (a := w) (B := BP) HBP.out [.int .i64 q1, .int .i64 q2, .int .i64 q3, .int .i64 q4, .bool q5, .int .i64 q6, .int .i64 q7, .int .i64 q8, .int .i64 q9, .int .i64 q10, .int .i64 q11, .int .i64 q12, .slice a1 nq c1] 0 _ (put_ext (a := w) (B := BS) HBS.out [.int .i64 u1, .int .i64 u2, .bool u3, .int .i64 u4, .int .i64 u5, .int .i64 u6, .int .i64 u7, .bool u8, .slice a2 nu c2] 0 _ (HX.out.trans E2)))
           have RP9 := Lib.hid (((r2.weak (by omega) (V' := VV BP BS) (fun g _ hg => hg.elim (fun e => by rw [e]; exact lP0) (fun e => by rw [e]; exact lS0))).agree (agree_put (V := VV BP BS) (B := BS) (.inr rfl) [.int .i64 u1, .int .i64 u2, .bool u3, .int .i64 u4, .int .i64 u5, .int .i64 u6, .int .i64 u7, .bool u8, .slice a2 nu c2] 0 _)).agree (agree_put (V := VV BP BS) (B := BP) (.inl rfl) [.int .i64 q1, .int .i64 q2, .int .i64 q3, .int .i64 q4, .bool q5, .int .i64 q6, .int .i64 q7, .int .i64 q8, .int .i64 q9, .int .i64 q10, .int .i64 q11, .int .i64 q12, .slice a1 nq c1] 0 _))
           have RS9 := Lib.hid (((r2'.weak (by omega) (V' := VV BP BS) (fun g _ hg => hg.elim (fun e => by rw [e]; exact lP0) (fun e => by rw [e]; exact lS0))).agree (agree_put (V := VV BP BS) (B := BS) (.inr rfl) [.int .i64 u1, .int .i64 u2, .bool u3, .int .i64 u4, .int .i64 u5, .int .i64 u6, .int .i64 u7, .bool u8, .slice a2 nu c2] 0 _)).agree (agree_put (V := VV BP BS) (B := BP) (.inl rfl) [.int .i64 q1, .int .i64 q2, .int .i64 q3, .int .i64 q4, .bool q5, .int .i64 q6, .int .i64 q7, .int .i64 q8, .int .i64 q9, .int .i64 q10, .int .i64 q11, .int .i64 q12, .slice a1 nq c1] 0 _))
           rw [hW9] at C1 C2 X9 RP9 RS9
           clear hW9
           have CP := C2; have CS := C1)

        go_wp2_with fail
        go_roundw
        case rel => exact ⟨k + 1, ⟨q1, q2, q3, q4, q5, q6, q7, q8, q9, q10, q11, q12, vq⟩, ⟨u1, u2, u3, u4, u5, u6, u7, u8, vu⟩, a1, c1, a2, c2, by omega, by go_num, (by rw [show ((k + 1 : Nat) : Int) = (k : Int) + 1 by omega]; exact HF.out.1), by simp only [HNQ.out]; exact CP.out, by simp only [HNU.out]; exact CS.out, by simp only [HNQ.out]; exact RP9.out, by simp only [HNU.out]; exact RS9.out, X9.out⟩
        case measure => simp [intOf] <;> omega
    · by_cases hbig : 200 < ln
      · have hend : ((k : Int) < ln) ∧ ¬ ((k : Int) < 200) := by omega
        obtain ⟨hd, hd'⟩ := hend
        have hbi : (200 : Int) < ln := by omega
        go_wp2_with fail
        go_ret
        exact ⟨rfl, hx⟩
      · have hd : ¬ ((k : Int) < ln) := by omega
        have hbi : ¬ (200 : Int) < ln := by omega
        clear hlt
        have HX := Lib.hid hx
        have lP0 := hBP.lt
        have lS0 := hBS.lt
        have hV := vals_ok y
        have hst4 := crel_step (L := valsOf y) true (by omega) hV.1 hV.2 hJ
        have hG := hJ.good
        have hmod : Mod p := by
          have hb := hG.bnd
          have h0 : 0 ≤ p.state ∧ p.state ≤ 3000 ∧ 0 ≤ p.seq ∧ p.seq ≤ 3000 := by
            cases hs : p.started
            · have := hG.off hs; omega
            · have := hG.on hs; omega
          exact ⟨by omega, by omega, by omega⟩
        have HS := Lib.hid (fun w1 v u h1 h2 => send_any p s y true v u w1 h1 h2 (by have := hG.vl; omega) (by have := hJ.vl; omega) hmod (by have := hJ.l1; omega) (by have := hJ.o0; have := hJ.o1; omega))
        have HRPA := Lib.hid (fun w' (he : Ext wr w') => (hRP.ext he).weak (by omega) (V' := Any) (fun _ _ h => h.elim))
        have HRSA := Lib.hid (fun w' (he : Ext wr w') => (hRS.ext he).weak (by omega) (V' := Any) (fun _ _ h => h.elim))
        have HF := Lib.hid hst4
        clear hst4 hG hmod hJ hRP hRS hV hx
        generalize hz : sendPS p s (valsOf y) true = z at *
        clear hz
        obtain ⟨q, u⟩ := z
        simp only at HS HF
        obtain ⟨p1, p2, p3, p4, p5, p6, p7, p8, p9, p10, p11, p12, vp⟩ := p
        obtain ⟨q1, q2, q3, q4, q5, q6, q7, q8, q9, q10, q11, q12, vq⟩ := q
        obtain ⟨s1, s2, s3, s4, s5, s6, s7, s8, vs⟩ := s
        obtain ⟨u1, u2, u3, u4, u5, u6, u7, u8, vu⟩ := u
        simp only at *
        generalize hn : vp.length = n at *
        have HNP := Lib.hid hn
        generalize hn0 : vs.length = n0 at *
        have HNS := Lib.hid hn0
        generalize hnq : vq.length = nq at *
        have HNQ := Lib.hid hnq
        generalize hnu : vu.length = nu at *
        have HNU := Lib.hid hnu
        clear hn hn0 hnq hnu
        have HPA : Hid (∀ w', Ext wr w' → Bk w' BP 28 #[.int .i64 p1, .int .i64 p2, .int .i64 p3, .int .i64 p4, .bool p5, .int .i64 p6, .int .i64 p7, .int .i64 p8, .int .i64 p9, .int .i64 p10, .int .i64 p11, .int .i64 p12, .slice a n c]) := fun w' he => hBP.ext he
        have HSA : Hid (∀ w', Ext wr w' → Bk w' BS 50 #[.int .i64 s1, .int .i64 s2, .bool s3, .int .i64 s4, .int .i64 s5, .int .i64 s6, .int .i64 s7, .bool s8, .slice a0 n0 c0]) := fun w' he => hBS.ext he
        have qp : ∀ j, wr.cell? ⟨BP, j, none⟩ = (#[.int .i64 p1, .int .i64 p2, .int .i64 p3, .int .i64 p4, .bool p5, .int .i64 p6, .int .i64 p7, .int .i64 p8, .int .i64 p9, .int .i64 p10, .int .i64 p11, .int .i64 p12, .slice a n c] : Array Value)[j]? := hBP.cell
        have qs : ∀ j, wr.cell? ⟨BS, j, none⟩ = (#[.int .i64 s1, .int .i64 s2, .bool s3, .int .i64 s4, .int .i64 s5, .int .i64 s6, .int .i64 s7, .bool s8, .slice a0 n0 c0] : Array Value)[j]? := hBS.cell
        clear hBP hBS

        go_wp2_with fail
        refine (HS.out _ _ _ (HRPA.out _ (Ext.refl wr)) (HRSA.out _ (Ext.refl wr))).mono ?_
        rintro e w2 ⟨a1, c1, a2, c2, he, x2, r2, r2'⟩
        simp only [HNQ.out, HNU.out] at he r2 r2'
        subst he
        have E2 : Ext wr w2 := x2
        have PP := Lib.hid (HPA.out _ E2)
        have PS := Lib.hid (HSA.out _ E2)
        have qp2 := PP.out.cell
        have fp2 := PP.out.frozen
        have qs2 := PS.out.cell
        have fs2 := PS.out.frozen
        go_upto_region 12 with fail
        clear qp2 fp2 qs2 fs2 qp qs
        first
        | (obtain ⟨w9, hW9⟩ : ∃ w9, (put (put w2 BP 0 [.int .i64 q1, .int .i64 q2, .int .i64 q3, .int .i64 q4, .bool q5, .int .i64 q6, .int .i64 q7, .int .i64 q8, .int .i64 q9, .int .i64 q10, .int .i64 q11, .int .i64 q12, .slice a1 nq c1]) BS 0 [.int .i64 u1, .int .i64 u2, .bool u3, .int .i64 u4, .int .i64 u5, .int .i64 u6, .int .i64 u7, .bool u8, .slice a2 nu c2]) = w9 := ⟨_, rfl⟩
           have hW8 := hW9
           simp only [put, Nat.reduceAdd] at hW8
           rw [hW8]
           clear hW8
           have C1 := Lib.hid (put_other (B := BP) (B' := BS) (by omega) [.int .i64 u1, .int .i64 u2, .bool u3, .int .i64 u4, .int .i64 u5, .int .i64 u6, .int .i64 u7, .bool u8, .slice a2 nu c2] 0 _ (put_all (vs := [.int .i64 q1, .int .i64 q2, .int .i64 q3, .int .i64 q4, .bool q5, .int .i64 q6, .int .i64 q7, .int .i64 q8, .int .i64 q9, .int .i64 q10, .int .i64 q11, .int .i64 q12, .slice a1 nq c1]) PP.out rfl))
           have C2 := Lib.hid (put_all (vs := [.int .i64 u1, .int .i64 u2, .bool u3, .int .i64 u4, .int .i64 u5, .int .i64 u6, .int .i64 u7, .bool u8, .slice a2 nu c2]) (put_other (B := BS) (B' := BP) (by omega) [.int .i64 q1, .int .i64 q2, .int .i64 q3, .int .i64 q4, .bool q5, .int .i64 q6, .int .i64 q7, .int .i64 q8, .int .i64 q9, .int .i64 q10, .int .i64 q11, .int .i64 q12, .slice a1 nq c1] 0 _ PS.out) rfl)
           have X9 := Lib.hid (put_ext (a := w) (B := BS) HBS.out [.int .i64 u1, .int .i64 u2, .bool u3, .int .i64 u4, .int .i64 u5, .int .i64 u6, .int .i64 u7, .bool u8, .slice a2 nu c2] 0 _ (put_ext (a := w) (B := BP) HBP.out [.int .i64 q1, .int .i64 q2, .int .i64 q3, .int .i64 q4, .bool q5, .int .i64 q6, .int .i64 q7, .int .i64 q8, .int .i64 q9, .int .i64 q10, .int .i64 q11, .int .i64 q12, .slice a1 nq c1] 0 _ (HX.out.trans E2)))
           have RP9 := Lib.hid (((r2.weak (by omega) (V' := VV BP BS) (fun g _ hg => hg.elim (fun e => by rw [e]; exact lP0) (fun e => by rw [e]; exact lS0))).agree (agree_put (V := VV BP BS) (B := BP) (.inl rfl) [.int .i64 q1, .int .i64 q2, .int .i64 q3, .int .i64 q4, .bool q5, .int .i64 q6, .int .i64 q7, .int .i64 q8, .int .i64 q9, .int .i64 q10, .int .i64 q11, .int .i64 q12, .slice a1 nq c1] 0 _)).agree (agree_put (V := VV BP BS) (B := BS) (.inr rfl) [.int .i64 u1, .int .i64 u2, .bool u3, .int .i64 u4, .int .i64 u5, .int .i64 u6, .int .i64 u7, .bool u8, .slice a2 nu c2] 0 _))
           have RS9 := Lib.hid (((r2'.weak (by omega) (V' := VV BP BS) (fun g _ hg => hg.elim (fun e => by rw [e]; exact lP0) (fun e => by rw [e]; exact lS0))).agree (agree_put (V := VV BP BS) (B := BP) (.inl rfl) [.int .i64 q1, .int .i64 q2, .int .i64 q3, .int .i64 q4, .bool q5, .int .i64 q6, .int .i64 q7, .int .i64 q8, .int .i64 q9, .int .i64 q10, .int .i64 q11, .int .i64 q12, .slice a1 nq c1] 0 _)).agree (agree_put (V := VV BP BS) (B := BS) (.inr rfl) [.int .i64 u1, .int .i64 u2, .bool u3, .int .i64 u4, .int .i64 u5, .int .i64 u6, .int .i64 u7, .bool u8, .slice a2 nu c2] 0 _))
           rw [hW9] at C1 C2 X9 RP9 RS9
           clear hW9
           have CP := C1; have CS := C2)
        | (obtain ⟨w9, hW9⟩ : ∃ w9, (put (put w2 BS 0 [.int .i64 u1, .int .i64 u2, .bool u3, .int .i64 u4, .int .i64 u5, .int .i64 u6, .int .i64 u7, .bool u8, .slice a2 nu c2]) BP 0 [.int .i64 q1, .int .i64 q2, .int .i64 q3, .int .i64 q4, .bool q5, .int .i64 q6, .int .i64 q7, .int .i64 q8, .int .i64 q9, .int .i64 q10, .int .i64 q11, .int .i64 q12, .slice a1 nq c1]) = w9 := ⟨_, rfl⟩
           have hW8 := hW9
           simp only [put, Nat.reduceAdd] at hW8
           rw [hW8]
           clear hW8
           have C1 := Lib.hid (put_other (B := BS) (B' := BP) (by omega) [.int .i64 q1, .int .i64 q2, .int .i64 q3, .int .i64 q4, .bool q5, .int .i64 q6, .int .i64 q7, .int .i64 q8, .int .i64 q9, .int .i64 q10, .int .i64 q11, .int .i64 q12, .slice a1 nq c1] 0 _ (put_all (vs := [.int .i64 u1, .int .i64 u2, .bool u3, .int .i64 u4, .int .i64 u5, .int .i64 u6, .int .i64 u7, .bool u8, .slice a2 nu c2]) PS.out rfl))
           have C2 := Lib.hid (put_all (vs := [.int .i64 q1, .int .i64 q2, .int .i64 q3, .int .i64 q4, .bool q5, .int .i64 q6, .int .i64 q7, .int .i64 q8, .int .i64 q9, .int .i64 q10, .int .i64 q11, .int .i64 q12, .slice a1 nq c1]) (put_other (B := BP) (B' := BS) (by omega) [.int .i64 u1, .int .i64 u2, .bool u3, .int .i64 u4, .int .i64 u5, .int .i64 u6, .int .i64 u7, .bool u8, .slice a2 nu c2] 0 _ PP.out) rfl)
           have X9 := Lib.hid (put_ext (a := w) (B := BP) HBP.out [.int .i64 q1, .int .i64 q2, .int .i64 q3, .int .i64 q4, .bool q5, .int .i64 q6, .int .i64 q7, .int .i64 q8, .int .i64 q9, .int .i64 q10, .int .i64 q11, .int .i64 q12, .slice a1 nq c1] 0 _ (put_ext (a := w) (B := BS) HBS.out [.int .i64 u1, .int .i64 u2, .bool u3, .int .i64 u4, .int .i64 u5, .int .i64 u6, .int .i64 u7, .bool u8, .slice a2 nu c2] 0 _ (HX.out.trans E2)))
           have RP9 := Lib.hid (((r2.weak (by omega) (V' := VV BP BS) (fun g _ hg => hg.elim (fun e => by rw [e]; exact lP0) (fun e => by rw [e]; exact lS0))).agree (agree_put (V := VV BP BS) (B := BS) (.inr rfl) [.int .i64 u1, .int .i64 u2, .bool u3, .int .i64 u4, .int .i64 u5, .int .i64 u6, .int .i64 u7, .bool u8, .slice a2 nu c2] 0 _)).agree (agree_put (V := VV BP BS) (B := BP) (.inl rfl) [.int .i64 q1, .int .i64 q2, .int .i64 q3, .int .i64 q4, .bool q5, .int .i64 q6, .int .i64 q7, .int .i64 q8, .int .i64 q9, .int .i64 q10, .int .i64 q11, .int .i64 q12, .slice a1 nq c1] 0 _))
           have RS9 := Lib.hid (((r2'.weak (by omega) (V' := VV BP BS) (fun g _ hg => hg.elim (fun e => by rw [e]; exact lP0) (fun e => by rw [e]; exact lS0))).agree (agree_put (V := VV BP BS) (B := BS) (.inr rfl) [.int .i64 u1, .int .i64 u2, .bool u3, .int .i64 u4, .int .i64 u5, .int .i64 u6, .int .i64 u7, .bool u8, .slice a2 nu c2] 0 _)).agree (agree_put (V := VV BP BS) (B := BP) (.inl rfl) [.int .i64 q1, .int .i64 q2, .int .i64 q3, .int .i64 q4, .bool q5, .int .i64 q6, .int .i64 q7, .int .i64 q8, .int .i64 q9, .int .i64 q10, .int .i64 q11, .int .i64 q12, .slice a1 nq c1] 0 _))
           rw [hW9] at C1 C2 X9 RP9 RS9
           clear hW9
           have CP := C2; have CS := C1)
        have HJ5 : Hid (Crel (300 + (0 : Nat)) ⟨q1, q2, q3, q4, q5, q6, q7, q8, q9, q10, q11, q12, vq⟩ ⟨u1, u2, u3, u4, u5, u6, u7, u8, vu⟩ ∧ ((⟨q1, q2, q3, q4, q5, q6, q7, q8, q9, q10, q11, q12, vq⟩ : PSt).started = true ∧ (⟨q1, q2, q3, q4, q5, q6, q7, q8, q9, q10, q11, q12, vq⟩ : PSt).vals = valsOf y)) := ⟨HF.out.1.mono (by simp; omega), HF.out.2.1, HF.out.2.2.1⟩
        have B5 := CP.out
        have B6 := CS.out
        have R5 := RP9.out
        have R6 := RS9.out
        have X5 := X9.out
        clear CP CS RP9 RS9 X9 C1 C2 PP PS HS HF HRPA HRSA HPA HSA x2 E2 r2 r2'
        go_wp2_with fail
        go_loopw [11] (fun i wr => ∃ (j : Nat) (p : PSt) (s : SSt) (a : Option Addr) (c : Nat) (a0 : Option Addr) (c0 : Nat), j ≤ 8 ∧ i = .int .i64 j ∧ Crel (300 + (j : Nat)) p s ∧ (p.started = true ∧ p.vals = valsOf y) ∧ (Near p s ∨ (j : Int) ≤ p.since) ∧ Bk wr BP 28 (pubC p (.slice a p.vals.length c)) ∧ Bk wr BS 50 (subC s (.slice a0 s.vals.length c0)) ∧ RF (VV BP BS) 6 valE wr (.slice a p.vals.length c) p.vals ∧ RF (VV BP BS) 6 valE wr (.slice a0 s.vals.length c0) s.vals ∧ Ext w wr) (fun i _ => 8 - (intOf i).toNat)
        case atStart => exact ⟨0, ⟨q1, q2, q3, q4, q5, q6, q7, q8, q9, q10, q11, q12, vq⟩, ⟨u1, u2, u3, u4, u5, u6, u7, u8, vu⟩, a1, c1, a2, c2, by omega, rfl, HJ5.out.1, HJ5.out.2, .inr (con_start HJ5.out.1 HJ5.out.2.1), by simp only [HNQ.out]; exact B5, by simp only [HNU.out]; exact B6, by simp only [HNQ.out]; exact R5, by simp only [HNU.out]; exact R6, X5⟩
        case round =>
          obtain ⟨j, p, s, a, c, a0, c0, hj, rfl, hJ, hsv, hnear, hBP, hBS, hRP, hRS, hx⟩ := hrel
          clear B5 B6 X5 R5 R6
          by_cases hlt : j < 8
          · have hji : (j : Int) < 8 := by omega
            have HX := Lib.hid hx
            have lP0 := hBP.lt
            have lS0 := hBS.lt
            have hV := vals_ok y
            have hst4 := crel_step (L := valsOf y) false (by omega) hV.1 hV.2 hJ
            have hG := hJ.good
            have hmod : Mod p := by
              have hb := hG.bnd
              have h0 : 0 ≤ p.state ∧ p.state ≤ 3000 ∧ 0 ≤ p.seq ∧ p.seq ≤ 3000 := by
                cases hs : p.started
                · have := hG.off hs; omega
                · have := hG.on hs; omega
              exact ⟨by omega, by omega, by omega⟩
            have HS := Lib.hid (fun w1 v u h1 h2 => send_any p s y false v u w1 h1 h2 (by have := hG.vl; omega) (by have := hJ.vl; omega) hmod (by have := hJ.l1; omega) (by have := hJ.o0; have := hJ.o1; omega))
            have HRPA := Lib.hid (fun w' (he : Ext wr w') => (hRP.ext he).weak (by omega) (V' := Any) (fun _ _ h => h.elim))
            have HRSA := Lib.hid (fun w' (he : Ext wr w') => (hRS.ext he).weak (by omega) (V' := Any) (fun _ _ h => h.elim))
            have HF : Hid (Crel (300 + (j + 1 : Nat)) (sendPS p s (valsOf y) false).1 (sendPS p s (valsOf y) false).2 ∧ ((sendPS p s (valsOf y) false).1.started = true ∧ (sendPS p s (valsOf y) false).1.vals = valsOf y) ∧ (Near (sendPS p s (valsOf y) false).1 (sendPS p s (valsOf y) false).2 ∨ ((j + 1 : Nat) : Int) ≤ (sendPS p s (valsOf y) false).1.since)) := con_round hsv hnear hst4
            clear hst4 hsv hnear hG hmod hJ hRP hRS hV hx
            generalize hz : sendPS p s (valsOf y) false = z at *
            clear hz
            obtain ⟨q, u⟩ := z
            simp only at HS HF
            obtain ⟨p1, p2, p3, p4, p5, p6, p7, p8, p9, p10, p11, p12, vp⟩ := p
            obtain ⟨q1, q2, q3, q4, q5, q6, q7, q8, q9, q10, q11, q12, vq⟩ := q
            obtain ⟨s1, s2, s3, s4, s5, s6, s7, s8, vs⟩ := s
            obtain ⟨u1, u2, u3, u4, u5, u6, u7, u8, vu⟩ := u
            simp only at *
            generalize hn : vp.length = n at *
            have HNP := Lib.hid hn
            generalize hn0 : vs.length = n0 at *
            have HNS := Lib.hid hn0
            generalize hnq : vq.length = nq at *
            have HNQ := Lib.hid hnq
            generalize hnu : vu.length = nu at *
            have HNU := Lib.hid hnu
            clear hn hn0 hnq hnu
            have HPA : Hid (∀ w', Ext wr w' → Bk w' BP 28 #[.int .i64 p1, .int .i64 p2, .int .i64 p3, .int .i64 p4, .bool p5, .int .i64 p6, .int .i64 p7, .int .i64 p8, .int .i64 p9, .int .i64 p10, .int .i64 p11, .int .i64 p12, .slice a n c]) := fun w' he => hBP.ext he
            have HSA : Hid (∀ w', Ext wr w' → Bk w' BS 50 #[.int .i64 s1, .int .i64 s2, .bool s3, .int .i64 s4, .int .i64 s5, .int .i64 s6, .int .i64 s7, .bool s8, .slice a0 n0 c0]) := fun w' he => hBS.ext he
            have qp : ∀ j, wr.cell? ⟨BP, j, none⟩ = (#[.int .i64 p1, .int .i64 p2, .int .i64 p3, .int .i64 p4, .bool p5, .int .i64 p6, .int .i64 p7, .int .i64 p8, .int .i64 p9, .int .i64 p10, .int .i64 p11, .int .i64 p12, .slice a n c] : Array Value)[j]? := hBP.cell
            have qs : ∀ j, wr.cell? ⟨BS, j, none⟩ = (#[.int .i64 s1, .int .i64 s2, .bool s3, .int .i64 s4, .int .i64 s5, .int .i64 s6, .int .i64 s7, .bool s8, .slice a0 n0 c0] : Array Value)[j]? := hBS.cell
            clear hBP hBS

            go_wp2_with fail
            refine (HS.out _ _ _ (HRPA.out _ (Ext.refl wr)) (HRSA.out _ (Ext.refl wr))).mono ?_
            rintro e w2 ⟨a1, c1, a2, c2, he, x2, r2, r2'⟩
            simp only [HNQ.out, HNU.out] at he r2 r2'
            subst he
            have E2 : Ext wr w2 := x2
            have PP := Lib.hid (HPA.out _ E2)
            have PS := Lib.hid (HSA.out _ E2)
            have qp2 := PP.out.cell
            have fp2 := PP.out.frozen
            have qs2 := PS.out.cell
            have fs2 := PS.out.frozen
            go_upto_region 14 with fail
            clear qp2 fp2 qs2 fs2 qp qs
            first
            | (obtain ⟨w9, hW9⟩ : ∃ w9, (put (put w2 BP 0 [.int .i64 q1, .int .i64 q2, .int .i64 q3, .int .i64 q4, .bool q5, .int .i64 q6, .int .i64 q7, .int .i64 q8, .int .i64 q9, .int .i64 q10, .int .i64 q11, .int .i64 q12, .slice a1 nq c1]) BS 0 [.int .i64 u1, .int .i64 u2, .bool u3, .int .i64 u4, .int .i64 u5, .int .i64 u6, .int .i64 u7, .bool u8, .slice a2 nu c2]) = w9 := ⟨_, rfl⟩
               have hW8 := hW9
               simp only [put, Nat.reduceAdd] at hW8
               rw [hW8]
               clear hW8
               have C1 := Lib.hid (put_other (B := BP) (B' := BS) (by omega) [.int .i64 u1, .int .i64 u2, .bool u3, .int .i64 u4, .int .i64 u5, .int .i64 u6, .int .i64 u7, .bool u8, .slice a2 nu c2] 0 _ (put_all (vs := [.int .i64 q1, .int .i64 q2, .int .i64 q3, .int .i64 q4, .bool q5, .int .i64 q6, .int .i64 q7, .int .i64 q8, .int .i64 q9, .int .i64 q10, .int .i64 q11, .int .i64 q12, .slice a1 nq c1]) PP.out rfl))
               have C2 := Lib.hid (put_all (vs := [.int .i64 u1, .int .i64 u2, .bool u3, .int .i64 u4, .int .i64 u5, .int .i64 u6, .int .i64 u7, .bool u8, .slice a2 nu c2]) (put_other (B := BS) (B' := BP) (by omega) [.int .i64 q1, .int .i64 q2, .int .i64 q3, .int .i64 q4, .bool q5, .int .i64 q6, .int .i64 q7, .int .i64 q8, .int .i64 q9, .int .i64 q10, .int .i64 q11, .int .i64 q12, .slice a1 nq c1] 0 _ PS.out) rfl)
               have X9 := Lib.hid (put_ext (a := w) (B := BS) HBS.out [.int .i64 u1, .int .i64 u2, .bool u3, .int .i64 u4, .int .i64 u5, .int .i64 u6, .int .i64 u7, .bool u8, .slice a2 nu c2] 0 _ (put_ext (a := w) (B := BP) HBP.out [.int .i64 q1, .int .i64 q2, .int .i64 q3, .int .i64 q4, .bool q5, .int .i64 q6, .int .i64 q7, .int .i64 q8, .int .i64 q9, .int .i64 q10, .int .i64 q11, .int .i64 q12, .slice a1 nq c1] 0 _ (HX.out.trans E2)))
               have RP9 := Lib.hid (((r2.weak (by omega) (V' := VV BP BS) (fun g _ hg => hg.elim (fun e => by rw [e]; exact lP0) (fun e => by rw [e]; exact lS0))).agree (agree_put (V := VV BP BS) (B := BP) (.inl rfl) [.int .i64 q1, .int .i64 q2, .int .i64 q3, .int .i64 q4, .bool q5, .int .i64 q6, .int .i64 q7, .int .i64 q8, .int .i64 q9, .int .i64 q10, .int .i64 q11, .int .i64 q12, .slice a1 nq c1] 0 _)).agree (agree_put (V := VV BP BS) (B := BS) (.inr rfl) [.int .i64 u1, .int .i64 u2, .bool u3, .int .i64 u4, .int .i64 u5, .int .i64 u6, .int .i64 u7, .bool u8, .slice a2 nu c2] 0 _))
               have RS9 := Lib.hid (((r2'.weak (by omega) (V' := VV BP BS) (fun g _ hg => hg.elim (fun e => by rw [e]; exact lP0) (fun e => by rw [e]; exact lS0))).agree (agree_put (V := VV BP BS) (B := BP) (.inl rfl) [.int .i64 q1, .int .i64 q2, .int .i64 q3, .int .i64 q4, .bool q5, .int .i64 q6, .int .i64 q7, .int .i64 q8, .int .i64 q9, .int .i64 q10, .int .i64 q11, .int .i64 q12, .slice a1 nq c1] 0 _)).agree (agree_put (V := VV BP BS) (B := BS) (.inr rfl) [.int .i64 u1, .int .i64 u2, .bool u3, .int .i64 u4, .int .i64 u5, .int .i64 u6, .int .i64 u7, .bool u8, .slice a2 nu c2] 0 _))
               rw [hW9] at C1 C2 X9 RP9 RS9
               clear hW9
               have CP := C1; have CS := C2)
            | (obtain ⟨w9, hW9⟩ : ∃ w9, (put (put w2 BS 0 [.int .i64 u1, .int .i64 u2, .bool u3, .int .i64 u4, .int .i64 u5, .int .i64 u6, .int .i64 u7, .bool u8, .slice a2 nu c2]) BP 0 [.int .i64 q1, .int .i64 q2, .int .i64 q3, .int .i64 q4, .bool q5, .int .i64 q6, .int .i64 q7, .int .i64 q8, .int .i64 q9, .int .i64 q10, .int .i64 q11, .int .i64 q12, .slice a1 nq c1]) = w9 := ⟨_, rfl⟩
               have hW8 := hW9
               simp only [put, Nat.reduceAdd] at hW8
               rw [hW8]
               clear hW8
               have C1 := Lib.hid (put_other (B := BS) (B' := BP) (by omega) [.int .i64 q1, .int .i64 q2, .int .i64 q3, .int .i64 q4, .bool q5, .int .i64 q6, .int .i64 q7, .int .i64 q8, .int .i64 q9, .int .i64 q10, .int .i64 q11, .int .i64 q12, .slice a1 nq c1] 0 _ (put_all (vs := [.int .i64 u1, .int .i64 u2, .bool u3, .int .i64 u4, .int .i64 u5, .int .i64 u6, .int .i64 u7, .bool u8, .slice a2 nu c2]) PS.out rfl))
               have C2 := Lib.hid (put_all (vs := [.int .i64 q1, .int .i64 q2, .int .i64 q3, .int .i64 q4, .bool q5, .int .i64 q6, .int .i64 q7, .int .i64 q8, .int .i64 q9, .int .i64 q10, .int .i64 q11, .int .i64 q12, .slice a1 nq c1]) (put_other (B := BP) (B' := BS) (by omega) [.int .i64 u1, .int .i64 u2, .bool u3, .int .i64 u4, .int .i64 u5, .int .i64 u6, .int .i64 u7, .bool u8, .slice a2 nu c2] 0 _ PP.out) rfl)
               have X9 := Lib.hid (put_ext (a := w) (B := BP) HBP.out [.int .i64 q1, .int .i64 q2, .int .i64 q3, .int .i64 q4, .bool q5, .int .i64 q6, .int .i64 q7, .int .i64 q8, .int .i64 q9, .int .i64 q10, .int .i64 q11, .int .i64 q12, .slice a1 nq c1] 0 _ (put_ext (a := w) (B := BS) HBS.out [.int .i64 u1, .int .i64 u2, .bool u3, .int .i64 u4, .int .i64 u5, .int .i64 u6, .int .i64 u7, .bool u8, .slice a2 nu c2] 0 _ (HX.out.trans E2)))
               have RP9 := Lib.hid (((r2.weak (by omega) (V' := VV BP BS) (fun g _ hg => hg.elim (fun e => by rw [e]; exact lP0) (fun e => by rw [e]; exact lS0))).agree (agree_put (V := VV BP BS) (B := BS) (.inr rfl) [.int .i64 u1, .int .i64 u2, .bool u3, .int .i64 u4, .int .i64 u5, .int .i64 u6, .int .i64 u7, .bool u8, .slice a2 nu c2] 0 _)).agree (agree_put (V := VV BP BS) (B := BP) (.inl rfl) [.int .i64 q1, .int .i64 q2, .int .i64 q3, .int .i64 q4, .bool q5, .int .i64 q6, .int .i64 q7, .int .i64 q8, .int .i64 q9, .int .i64 q10, .int .i64 q11, .int .i64 q12, .slice a1 nq c1] 0 _))
               have RS9 := Lib.hid (((r2'.weak (by omega) (V' := VV BP BS) (fun g _ hg => hg.elim (fun e => by rw [e]; exact lP0) (fun e => by rw [e]; exact lS0))).agree (agree_put (V := VV BP BS) (B := BS) (.inr rfl) [.int .i64 u1, .int .i64 u2, .bool u3, .int .i64 u4, .int .i64 u5, .int .i64 u6, .int .i64 u7, .bool u8, .slice a2 nu c2] 0 _)).agree (agree_put (V := VV BP BS) (B := BP) (.inl rfl) [.int .i64 q1, .int .i64 q2, .int .i64 q3, .int .i64 q4, .bool q5, .int .i64 q6, .int .i64 q7, .int .i64 q8, .int .i64 q9, .int .i64 q10, .int .i64 q11, .int .i64 q12, .slice a1 nq c1] 0 _))
               rw [hW9] at C1 C2 X9 RP9 RS9
               clear hW9
               have CP := C2; have CS := C1)
            go_wp2_with fail
            go_roundw
            case rel => exact ⟨j + 1, ⟨q1, q2, q3, q4, q5, q6, q7, q8, q9, q10, q11, q12, vq⟩, ⟨u1, u2, u3, u4, u5, u6, u7, u8, vu⟩, a1, c1, a2, c2, by omega, by go_num, HF.out.1, HF.out.2.1, HF.out.2.2, by simp only [HNQ.out]; exact CP.out, by simp only [HNU.out]; exact CS.out, by simp only [HNQ.out]; exact RP9.out, by simp only [HNU.out]; exact RS9.out, X9.out⟩
            case measure => simp [intOf] <;> omega

          · have hji : ¬ (j : Int) < 8 := by omega
            have hj8 : j = 8 := by omega
            subst hj8
            have hn8 : Near p s := con_end hJ hsv hnear
            have HVA := Lib.hid (fun v w1 => valid_any s v w1)
            rw [near_valid hJ.good hsv.1 hn8] at HVA
            have hsv2 : s.vals = valsOf y := hn8.vals.trans hsv.2
            have HSV := Lib.hid (fun va vb w1 h h' => sameVals_any (valsOf y) (valsOf y) va vb w1 h h')
            simp only [decide_true] at HSV
            have HTR : Hid (TickR 0 s) := ⟨by have := hJ.l1; omega, hJ.vl, hJ.l0⟩
            have HRSA := Lib.hid (fun w' (he : Ext wr w') => (hRS.ext he).weak (by omega) (V' := Any) (fun _ _ h => h.elim))
            have HRS0 := Lib.hid (fun w' (he : Ext wr w') => (hRS.ext he).weak (by omega) (V' := (· = BS)) (fun _ _ h => .inr h))
            have HX := Lib.hid hx
            have HSA0 := Lib.hid (fun w' (he : Ext wr w') => hBS.ext he)
            have qs0 := hBS.cell
            clear hJ hsv hnear hn8 hBP hRP hRS hx hBS
            obtain ⟨s1, s2, s3, s4, s5, s6, s7, s8, vs⟩ := s
            simp only at *
            subst hsv2
            have HV := Lib.hid (fun w1 => values_any y w1)
            generalize valsOf y = L at *
            generalize hn0 : L.length = n0 at *
            have HN0 := Lib.hid hn0
            clear hn0
            have HSA : Hid (∀ w', Ext wr w' → Bk w' BS 50 #[.int .i64 s1, .int .i64 s2, .bool s3, .int .i64 s4, .int .i64 s5, .int .i64 s6, .int .i64 s7, .bool s8, .slice a0 n0 c0]) := HSA0.out
            have HSC : Hid (∀ w', Ext wr w' → ∀ j, w'.cell? ⟨BS, j, none⟩ = (#[.int .i64 s1, .int .i64 s2, .bool s3, .int .i64 s4, .int .i64 s5, .int .i64 s6, .int .i64 s7, .bool s8, .slice a0 n0 c0] : Array Value)[j]?) := fun w' he => (HSA.out w' he).cell
            have qs : ∀ j, wr.cell? ⟨BS, j, none⟩ = (#[.int .i64 s1, .int .i64 s2, .bool s3, .int .i64 s4, .int .i64 s5, .int .i64 s6, .int .i64 s7, .bool s8, .slice a0 n0 c0] : Array Value)[j]? := qs0
            clear HSA0 qs0
            go_upto_region 16 with fail
            go_region_held3 (fun w' => ∀ j, w'.cell? ⟨BS, j, none⟩ = (#[.int .i64 s1, .int .i64 s2, .bool s3, .int .i64 s4, .int .i64 s5, .int .i64 s6, .int .i64 s7, .bool s8, .slice a0 n0 c0] : Array Value)[j]?)
              (first | (with_reducible exact qs) | (exact HSC.out _ (by first | (with_reducible exact (Ext.refl wr).drew) | (with_reducible exact E4) | (with_reducible exact E5) | (with_reducible exact E6))) | fail)
              (first
                | (go_at_call 42; (with_reducible refine (HVA.out _ _).mono ?_); rintro e w4 ⟨rfl, x4⟩; have E4 : Ext wr w4 := (Ext.refl wr).drew.trans x4; clear x4)
                | (go_at_call 18; (with_reducible refine (HV.out _).mono ?_); rintro e w5 ⟨a5, c5, he, x5, r5⟩; rw [HN0.out] at he r5; subst he; have E5 : Ext wr w5 := E4.trans x5; have HR5 := Lib.hid (r5.weak (by omega) (V' := Any) (fun _ _ h => h.elim)); clear r5 x5)
                | (go_at_call 21; (with_reducible refine (HSV.out _ _ _ (HRSA.out _ E5) HR5.out).mono ?_); rintro e w6 ⟨rfl, x6⟩; have E6 : Ext wr w6 := E5.trans x6; clear x6)
                | fail)
            have B7 := HSA.out _ E6
            have R7 := HRS0.out _ E6
            have X7 := Lib.hid (HX.out.trans E6)
            clear HSC HSA HRSA HRS0 HVA HSV HV HR5 E4 E5 E6 qs
            go_wp2_with fail
            go_loopw [12] (fun i wr => ∃ (j : Nat) (s : SSt) (a0 : Option Addr) (c0 : Nat), j ≤ 25 ∧ i = .int .i64 j ∧ TickR j s ∧ Bk wr BS 50 (subC s (.slice a0 s.vals.length c0)) ∧ RF (· = BS) 6 valE wr (.slice a0 s.vals.length c0) s.vals ∧ Ext w wr) (fun i _ => 25 - (intOf i).toNat)
            case atStart => exact ⟨0, ⟨s1, s2, s3, s4, s5, s6, s7, s8, L⟩, a0, c0, by omega, rfl, HTR.out, by simp only [HN0.out]; exact B7, by simp only [HN0.out]; exact R7, X7.out⟩
            case round =>
              obtain ⟨j, s, a0, c0, hj, rfl, hT, hBS, hRS, hx⟩ := hrel
              clear B7 R7
              by_cases hlt : j < 25
              · have hji : (j : Int) < 25 := by omega
                have HT := Lib.hid (tick_rel hlt hT)
                have HTK := Lib.hid (fun w1 v h => tick_any (V := Any) s v w1 h (by have := hT.2.1; omega) (by have := hT.1; omega))
                have HRSA := Lib.hid (fun w' (he : Ext wr w') => (hRS.ext he).weak (by omega) (V' := Any) (fun _ _ h => h.elim))
                have HX := Lib.hid hx
                have lS0 := hBS.lt
                clear hT hRS hx
                obtain ⟨u, hu⟩ : ∃ u, tickS s = u := ⟨_, rfl⟩
                rw [hu] at HT HTK
                clear hu
                obtain ⟨s1, s2, s3, s4, s5, s6, s7, s8, vs⟩ := s
                obtain ⟨u1, u2, u3, u4, u5, u6, u7, u8, vu⟩ := u
                simp only at *
                generalize hn0 : vs.length = n0 at *
                generalize hnu : vu.length = nu at *
                have HNU := Lib.hid hnu
                clear hn0 hnu
                have HSA : Hid (∀ w', Ext wr w' → Bk w' BS 50 #[.int .i64 s1, .int .i64 s2, .bool s3, .int .i64 s4, .int .i64 s5, .int .i64 s6, .int .i64 s7, .bool s8, .slice a0 n0 c0]) := fun w' he => hBS.ext he
                have qs : ∀ j, wr.cell? ⟨BS, j, none⟩ = (#[.int .i64 s1, .int .i64 s2, .bool s3, .int .i64 s4, .int .i64 s5, .int .i64 s6, .int .i64 s7, .bool s8, .slice a0 n0 c0] : Array Value)[j]? := hBS.cell
                clear hBS
                go_wp2_with fail
                refine (HTK.out _ _ (HRSA.out _ (Ext.refl wr))).mono ?_
                rintro e w2 ⟨a2, c2, he, x2, r2⟩
                simp only [HNU.out] at he r2
                subst he
                have PS := Lib.hid (HSA.out _ x2)
                have qs2 := PS.out.cell
                have fs2 := PS.out.frozen
                go_upto_region 20 with fail
                clear qs2 fs2 qs
                change Code.wp _ _ _ _ (put w2 BS 0 [.int .i64 u1, .int .i64 u2, .bool u3, .int .i64 u4, .int .i64 u5, .int .i64 u6, .int .i64 u7, .bool u8, .slice a2 nu c2])
                have CS := Lib.hid (put_all (vs := [.int .i64 u1, .int .i64 u2, .bool u3, .int .i64 u4, .int .i64 u5, .int .i64 u6, .int .i64 u7, .bool u8, .slice a2 nu c2]) PS.out rfl)
                have X9 := Lib.hid (put_ext (a := w) HBS.out [.int .i64 u1, .int .i64 u2, .bool u3, .int .i64 u4, .int .i64 u5, .int .i64 u6, .int .i64 u7, .bool u8, .slice a2 nu c2] 0 _ (HX.out.trans x2))
                have RS9 := Lib.hid ((r2.weak (by omega) (V' := (· = BS)) (fun g _ hg => by rw [hg]; exact lS0)).agree (agree_put (V := (· = BS)) rfl [.int .i64 u1, .int .i64 u2, .bool u3, .int .i64 u4, .int .i64 u5, .int .i64 u6, .int .i64 u7, .bool u8, .slice a2 nu c2] 0 w2))
                generalize put w2 BS 0 _ = w9 at *
                go_wp2_with fail
                go_roundw
                case rel => exact ⟨j + 1, ⟨u1, u2, u3, u4, u5, u6, u7, u8, vu⟩, a2, c2, by omega, by go_num, HT.out, by simp only [HNU.out]; exact CS.out, by simp only [HNU.out]; exact RS9.out, X9.out⟩
                case measure => simp [intOf] <;> omega
              · have hji : ¬ (j : Int) < 25 := by omega
                have hinv : validS s = false := tick_end (by omega) hT
                have HVA := Lib.hid (fun v w1 => valid_any s v w1)
                have HRD := Lib.hid (fun v w1 => read_no s v 0 w1 hinv)
                rw [hinv] at HVA
                clear hinv hT hRS
                obtain ⟨s1, s2, s3, s4, s5, s6, s7, s8, vs⟩ := s
                simp only at *
                generalize vs.length = n0 at *
                have HSA : Hid (∀ w', Ext wr w' → ∀ j, w'.cell? ⟨BS, j, none⟩ = (#[.int .i64 s1, .int .i64 s2, .bool s3, .int .i64 s4, .int .i64 s5, .int .i64 s6, .int .i64 s7, .bool s8, .slice a0 n0 c0] : Array Value)[j]?) := fun w' he => (hBS.ext he).cell
                have qs : ∀ j, wr.cell? ⟨BS, j, none⟩ = (#[.int .i64 s1, .int .i64 s2, .bool s3, .int .i64 s4, .int .i64 s5, .int .i64 s6, .int .i64 s7, .bool s8, .slice a0 n0 c0] : Array Value)[j]? := hBS.cell
                clear hBS
                go_wp2_with fail
                refine (HRD.out _ _).mono ?_
                rintro e w2 ⟨rfl, x2⟩
                have X2 := hx.trans x2
                clear qs
                go_upto_region 23 with fail
                have E3 : Ext wr (w2.alloc (.cells #[.int .i64 0, .int .i64 0, .string ⟨#[]⟩, .int .i64 0, .int .i64 0, .int .i64 0] 47)) := x2.alloc _
                have qs := HSA.out _ E3
                generalize w2.alloc (.cells #[.int .i64 0, .int .i64 0, .string ⟨#[]⟩, .int .i64 0, .int .i64 0, .int .i64 0] 47) = w3 at *
                go_wp2_with fail
                refine (HVA.out _ _).mono ?_
                rintro e w4 ⟨rfl, x4⟩
                go_wp2_with fail
                go_ret
                exact ⟨rfl, (hx.trans E3).trans x4⟩
end Go.Proofs.Ytopmhaebjpmbfaa
