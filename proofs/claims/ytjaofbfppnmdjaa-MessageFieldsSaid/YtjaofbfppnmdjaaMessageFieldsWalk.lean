/- The walk of the statement MessageFields. -/
import Derived.Test.YtjaofbfppnmdjaaMsgQ
import Derived.Test.YtjaofbfppnmdjaaMsgK
import Derived.Test.YtjaofbfppnmdjaaMsgR
namespace Go.Proofs.Ytjaofbfppnmdjaa
open Go.RowKit
attribute [local go_sem ↓] Go.wp_at_zero Go.wp_at_succ

theorem large_fld {l : List Val} (h : largeB l = false) : l.length ≤ 60 := by
  unfold largeB at h
  simp only [Bool.or_eq_false_iff, decide_eq_false_iff_not] at h
  omega
/-- x is m with another field in front. -/
structure Other (m x : Msg) : Prop where
  ok : chkM x = 0
  no : sameM m x = false
  fld : m.pub ≠ x.pub ∨ m.ttl ≠ x.ttl ∨ m.state ≠ x.state ∨ m.seq ≠ x.seq ∨ m.test ≠ x.test ∨ m.rev ≠ x.rev
theorem Other.of {m x : Msg} (hm : chkM m = 0) (hn : numOk x) (h1 : x.sec = m.sec ∧ x.frac = m.frac ∧ x.qual = m.qual ∧ x.vals = m.vals) (hf : m.pub ≠ x.pub ∨ m.ttl ≠ x.ttl ∨ m.state ≠ x.state ∨ m.seq ≠ x.seq ∨ m.test ≠ x.test ∨ m.rev ≠ x.rev) : Other m x := by
  obtain ⟨e1, e2, e3, e4⟩ := h1
  refine ⟨?_, sameM_no ?_, hf⟩
  · rw [chkM_yes x hn, e1, e2, e3, e4, ← chkM_yes m (chkM_zero m hm).1]
    exact hm
  · rcases hf with h | h | h | h | h | h
    · exact .inl h
    · exact .inr (.inl h)
    · exact .inr (.inr (.inr (.inl h)))
    · exact .inr (.inr (.inr (.inr (.inl h))))
    · exact .inr (.inr (.inr (.inr (.inr (.inl h)))))
    · exact .inr (.inr (.inr (.inr (.inr (.inr h)))))
theorem Other.bytes {m x : Msg} (hm : chkM m = 0) (h : Other m x) (e1 : encME m = 0) (e2 : encME x = 0) : encMB m ≠ encMB x := by
  intro he
  have hi := encM_inj m x hm h.ok e1 e2 he
  have hf := h.fld
  rw [hi.1, hi.2.1, hi.2.2.1, hi.2.2.2.1, hi.2.2.2.2.1, hi.2.2.2.2.2] at hf
  simp at hf
theorem fld0 (m : Msg) (hm : chkM m = 0) : Other m { m with pub := (wrap64 (m.pub + 1)).tmod 1000 } := by
  have hn := (chkM_zero m hm).1
  unfold numOk at hn
  have e1 : wrap64 (m.pub + 1) = m.pub + 1 := by unfold wrap64; omega
  have e2 : (m.pub + 1).tmod 1000 = (m.pub + 1) % 1000 := Int.tmod_eq_emod_of_nonneg (by omega)
  rw [e1, e2]
  refine Other.of hm ?_ ⟨rfl, rfl, rfl, rfl⟩ (.inl ?_)
  · unfold numOk; simp only; omega
  · simp only; omega
theorem fld1 (m : Msg) (hm : chkM m = 0) : Other m { m with ttl := wrap64 (m.ttl.tmod 65535 + 1) } := by
  have hn := (chkM_zero m hm).1
  unfold numOk at hn
  have e2 : m.ttl.tmod 65535 = m.ttl % 65535 := Int.tmod_eq_emod_of_nonneg (by omega)
  have e1 : wrap64 (m.ttl % 65535 + 1) = m.ttl % 65535 + 1 := by unfold wrap64; omega
  rw [e2, e1]
  refine Other.of hm ?_ ⟨rfl, rfl, rfl, rfl⟩ (.inr (.inl ?_))
  · unfold numOk; simp only; omega
  · simp only; omega
theorem fld2 (m : Msg) (hm : chkM m = 0) : Other m { m with state := wrap64 (m.state.tmod 4294967295 + 1) } := by
  have hn := (chkM_zero m hm).1
  unfold numOk at hn
  have e2 : m.state.tmod 4294967295 = m.state % 4294967295 := Int.tmod_eq_emod_of_nonneg (by omega)
  have e1 : wrap64 (m.state % 4294967295 + 1) = m.state % 4294967295 + 1 := by unfold wrap64; omega
  rw [e2, e1]
  refine Other.of hm ?_ ⟨rfl, rfl, rfl, rfl⟩ (.inr (.inr (.inl ?_)))
  · unfold numOk; simp only; omega
  · simp only; omega
theorem fld3 (m : Msg) (hm : chkM m = 0) : Other m { m with seq := (wrap64 (m.seq + 1)).tmod 4294967296 } := by
  have hn := (chkM_zero m hm).1
  unfold numOk at hn
  have e1 : wrap64 (m.seq + 1) = m.seq + 1 := by unfold wrap64; omega
  have e2 : (m.seq + 1).tmod 4294967296 = (m.seq + 1) % 4294967296 := Int.tmod_eq_emod_of_nonneg (by omega)
  rw [e1, e2]
  refine Other.of hm ?_ ⟨rfl, rfl, rfl, rfl⟩ (.inr (.inr (.inr (.inl ?_))))
  · unfold numOk; simp only; omega
  · simp only; omega
theorem fld4 (m : Msg) (hm : chkM m = 0) : Other m { m with rev := (wrap64 (m.rev + 1)).tmod 4294967296 } := by
  have hn := (chkM_zero m hm).1
  unfold numOk at hn
  have e1 : wrap64 (m.rev + 1) = m.rev + 1 := by unfold wrap64; omega
  have e2 : (m.rev + 1).tmod 4294967296 = (m.rev + 1) % 4294967296 := Int.tmod_eq_emod_of_nonneg (by omega)
  rw [e1, e2]
  refine Other.of hm ?_ ⟨rfl, rfl, rfl, rfl⟩ (.inr (.inr (.inr (.inr (.inr ?_)))))
  · unfold numOk; simp only; omega
  · simp only; omega
theorem fld5 (m : Msg) (hm : chkM m = 0) : Other m { m with test := !m.test } := by
  have hn := (chkM_zero m hm).1
  refine Other.of hm hn ⟨rfl, rfl, rfl, rfl⟩ (.inr (.inr (.inr (.inr (.inl ?_)))))
  simp only
  cases m.test <;> simp

set_option maxRecDepth 100000 in
set_option maxHeartbeats 16000000 in
theorem fields_walk (m : Msg) (wh : Int) (v : Value) (w : World) (hv : RF Any 6 valE w v m.vals) : Calls Try.prog 12 #[msgA m v, .int .i64 wh] w fun e w' => e = .returned (.bool true) ∧ Ext w w' := by
  have HK := Lib.hid (fun w1 => known12_any w1)
  have HLG := Lib.hid (fun w1 (he : Ext w w1) => large11_any m.vals v w1 (hv.ext he))
  have HE1 := Lib.hid (fun w1 (he : Ext w w1) => encMP_any m v w1 (hv.ext he))
  have HE2 := Lib.hid (fun x w1 (he : Ext w w1) (hx : x.vals = m.vals) => encMP_any x v w1 (by rw [hx]; exact hv.ext he))
  have HSM := Lib.hid (fun x w1 (he : Ext w w1) (hx : x.vals = m.vals) => sameMP_any m x v v w1 (hv.ext he) (by rw [hx]; exact hv.ext he))
  have HCR := Lib.hid (fun u w1 h => checkMR_any m u w1 h)
  cases hlg : largeB m.vals
  · have hle := large_fld hlg
    have HT := Lib.hid (fun w1 (he : Ext w w1) => to12_any m v w1 (hv.ext he) (by omega))
    obtain ⟨a, c, rfl, hc1, hc2⟩ := hv.form
    rw [hlg] at HLG
    by_cases hch : chkM m = 0
    · rw [hch] at HCR
      obtain ⟨r, hr⟩ : ∃ r, wh.tmod 6 = r := ⟨_, rfl⟩
      generalize hxx : m = mm
      obtain ⟨m1, m2, m3, m4, m5, m6, m7, m8, m9, vs⟩ := m
      subst hxx
      simp only at *
      generalize hn : vs.length = n at *
      have HNN := Lib.hid hn
      have HCH := Lib.hid hch
      clear hn hv hlg hle hch
      go_enter Try.func12, Try.ntmps12
      go_upto_region 1 with fail
      have BV := Bk.new w #[.int .i64 m1, .int .i64 m2, .int .i64 m3, .int .i64 m4, .int .i64 m5, .int .i64 m6, .int .i64 m7, .bool m8, .int .i64 m9, .slice a n c] 71 w.heap.size rfl
      have X0 : Ext w (w.alloc (.cells #[.int .i64 m1, .int .i64 m2, .int .i64 m3, .int .i64 m4, .int .i64 m5, .int .i64 m6, .int .i64 m7, .bool m8, .int .i64 m9, .slice a n c] 71)) := (Ext.refl w).alloc _
      generalize w.alloc (.cells #[.int .i64 m1, .int .i64 m2, .int .i64 m3, .int .i64 m4, .int .i64 m5, .int .i64 m6, .int .i64 m7, .bool m8, .int .i64 m9, .slice a n c] 71) = W at *
      go_wp2_with fail
      refine (HK.out _).mono ?_
      rintro e w1 ⟨rfl, x1⟩
      have X1 := X0.trans x1
      have B1 := BV.ext x1
      have q1 : ∀ j, w1.cell? ⟨w.heap.size, j, none⟩ = (#[.int .i64 m1, .int .i64 m2, .int .i64 m3, .int .i64 m4, .int .i64 m5, .int .i64 m6, .int .i64 m7, .bool m8, .int .i64 m9, .slice a n c] : Array Value)[j]? := B1.cell
      go_wp2_with fail
      refine (HLG.out _ X1).mono ?_
      rintro e w1' ⟨rfl, rfl⟩
      go_wp2_with fail
      refine (HT.out _ X1).mono ?_
      rintro e w3 ⟨a3, c3, he, x3, r3⟩
      simp only [HNN.out] at he r3
      subst he
      have HC3 := Lib.hid (HCR.out _ w3 (r3.weak (by omega) (fun _ _ h => h.elim)))
      have B3 := B1.ext x3
      have X3 := X1.trans x3
      clear r3 q1 BV B1 x1 x3 X1 X0
      go_wp2_with fail
      refine HC3.out.mono ?_
      rintro e w4 ⟨rfl, x4⟩
      have B4 := B3.ext x4
      have X4 := X3.trans x4
      have q4 : ∀ j, w4.cell? ⟨w.heap.size, j, none⟩ = (#[.int .i64 m1, .int .i64 m2, .int .i64 m3, .int .i64 m4, .int .i64 m5, .int .i64 m6, .int .i64 m7, .bool m8, .int .i64 m9, .slice a n c] : Array Value)[j]? := B4.cell
      clear B3 HC3 X3 x4
      go_upto_region 6 with fail
      have B5 := B4.alloc (.cells #[.int .i64 m1, .int .i64 m2, .int .i64 m3, .int .i64 m4, .int .i64 m5, .int .i64 m6, .int .i64 m7, .bool m8, .int .i64 m9, .slice a n c] 71)
      have C5 := Bk.new w4 #[.int .i64 m1, .int .i64 m2, .int .i64 m3, .int .i64 m4, .int .i64 m5, .int .i64 m6, .int .i64 m7, .bool m8, .int .i64 m9, .slice a n c] 71 w4.heap.size rfl
      have X5 := X4.alloc (.cells #[.int .i64 m1, .int .i64 m2, .int .i64 m3, .int .i64 m4, .int .i64 m5, .int .i64 m6, .int .i64 m7, .bool m8, .int .i64 m9, .slice a n c] 71)
      have hlt : w.heap.size < w4.heap.size := B4.lt
      generalize w4.alloc (.cells #[.int .i64 m1, .int .i64 m2, .int .i64 m3, .int .i64 m4, .int .i64 m5, .int .i64 m6, .int .i64 m7, .bool m8, .int .i64 m9, .slice a n c] 71) = w5 at *
      generalize w4.heap.size = X at *
      have q5 : ∀ j, w5.cell? ⟨w.heap.size, j, none⟩ = (#[.int .i64 m1, .int .i64 m2, .int .i64 m3, .int .i64 m4, .int .i64 m5, .int .i64 m6, .int .i64 m7, .bool m8, .int .i64 m9, .slice a n c] : Array Value)[j]? := B5.cell
      have p5 : ∀ j, w5.cell? ⟨X, j, none⟩ = (#[.int .i64 m1, .int .i64 m2, .int .i64 m3, .int .i64 m4, .int .i64 m5, .int .i64 m6, .int .i64 m7, .bool m8, .int .i64 m9, .slice a n c] : Array Value)[j]? := C5.cell
      have f5 := fun j => C5.frozen j
      clear q4 B4 X4
      go_upto_region 8 with fail
      clear hr
      have hway : r = 0 ∨ r = 1 ∨ r = 2 ∨ r = 3 ∨ r = 4 ∨ ((r == 0) = false ∧ (r == 1) = false ∧ (r == 2) = false ∧ (r == 3) = false ∧ (r == 4) = false) := by
        simp only [beq_eq_false_iff_ne, ne_eq]
        omega
      obtain rfl | rfl | rfl | rfl | rfl | ⟨z0, z1, z2, z3, z4⟩ := hway
      · have HO : Hid (Other ⟨m1, m2, m3, m4, m5, m6, m7, m8, m9, vs⟩ ⟨(wrap64 (m1 + 1)).tmod 1000, m2, m3, m4, m5, m6, m7, m8, m9, vs⟩) := Lib.hid (fld0 ⟨m1, m2, m3, m4, m5, m6, m7, m8, m9, vs⟩ HCH.out)
        go_upto_region 18 with fail
        generalize (wrap64 (m1 + 1)).tmod 1000 = y at *
        have C6 : Bk (w5.setCell ⟨X, 0, none⟩ (.int .i64 y)) X 71 #[.int .i64 y, .int .i64 m2, .int .i64 m3, .int .i64 m4, .int .i64 m5, .int .i64 m6, .int .i64 m7, .bool m8, .int .i64 m9, .slice a n c] := C5.setCell 0 _
        have B6 := B5.setOther (B' := X) (by omega) 0 (.int .i64 y)
        have X6 : Ext w (w5.setCell ⟨X, 0, none⟩ (.int .i64 y)) := X5.setCell (Nat.le_of_lt hlt) _
        generalize w5.setCell ⟨X, 0, none⟩ (.int .i64 y) = w6 at *
        have q6 : ∀ j, w6.cell? ⟨w.heap.size, j, none⟩ = (#[.int .i64 m1, .int .i64 m2, .int .i64 m3, .int .i64 m4, .int .i64 m5, .int .i64 m6, .int .i64 m7, .bool m8, .int .i64 m9, .slice a n c] : Array Value)[j]? := B6.cell
        have p6 : ∀ j, w6.cell? ⟨X, j, none⟩ = (#[.int .i64 y, .int .i64 m2, .int .i64 m3, .int .i64 m4, .int .i64 m5, .int .i64 m6, .int .i64 m7, .bool m8, .int .i64 m9, .slice a n c] : Array Value)[j]? := C6.cell
        have HEX := Lib.hid (fun w1 (he : Ext w w1) => HE2.out ⟨y, m2, m3, m4, m5, m6, m7, m8, m9, vs⟩ w1 he rfl)
        have HSX := Lib.hid (fun w1 (he : Ext w w1) => HSM.out ⟨y, m2, m3, m4, m5, m6, m7, m8, m9, vs⟩ w1 he rfl)
        rw [HO.out.no] at HSX
        have HBY := Lib.hid (HO.out.bytes HCH.out)
        have HW1 := Lib.hid (encME_ways ⟨m1, m2, m3, m4, m5, m6, m7, m8, m9, vs⟩ HCH.out)
        have HW2 := Lib.hid (encME_ways ⟨y, m2, m3, m4, m5, m6, m7, m8, m9, vs⟩ HO.out.ok)
        clear q5 p5 f5 B5 C5 X5 HE2 HSM HO HCH HT
        generalize encMB ⟨m1, m2, m3, m4, m5, m6, m7, m8, m9, vs⟩ = D1 at *
        generalize encMB ⟨y, m2, m3, m4, m5, m6, m7, m8, m9, vs⟩ = D2 at *
        generalize encME ⟨m1, m2, m3, m4, m5, m6, m7, m8, m9, vs⟩ = E1 at *
        generalize encME ⟨y, m2, m3, m4, m5, m6, m7, m8, m9, vs⟩ = E2 at *
        try simp only at *
        go_wp2_with fail
        refine (HE1.out _ X6).mono ?_
        rintro e w7 ⟨a7, c7, rfl, x7, r7⟩
        have R7 := Lib.hid (r7 Any (fun _ h => h.elim))
        have X7 := X6.trans x7
        have q7 : ∀ j, w7.cell? ⟨w.heap.size, j, none⟩ = (#[.int .i64 m1, .int .i64 m2, .int .i64 m3, .int .i64 m4, .int .i64 m5, .int .i64 m6, .int .i64 m7, .bool m8, .int .i64 m9, .slice a n c] : Array Value)[j]? := (B6.ext x7).cell
        have p7 : ∀ j, w7.cell? ⟨X, j, none⟩ = (#[.int .i64 y, .int .i64 m2, .int .i64 m3, .int .i64 m4, .int .i64 m5, .int .i64 m6, .int .i64 m7, .bool m8, .int .i64 m9, .slice a n c] : Array Value)[j]? := (C6.ext x7).cell
        clear r7 q6 p6
        generalize hd1 : D1.length = d1 at *
        go_wp2_with fail
        refine (HEX.out _ X7).mono ?_
        rintro e w8 ⟨a8, c8, rfl, x8, r8⟩
        have R8 := Lib.hid (r8 Any (fun _ h => h.elim))
        have X8 := X7.trans x8
        have q8 : ∀ j, w8.cell? ⟨w.heap.size, j, none⟩ = (#[.int .i64 m1, .int .i64 m2, .int .i64 m3, .int .i64 m4, .int .i64 m5, .int .i64 m6, .int .i64 m7, .bool m8, .int .i64 m9, .slice a n c] : Array Value)[j]? := ((B6.ext x7).ext x8).cell
        have p8 : ∀ j, w8.cell? ⟨X, j, none⟩ = (#[.int .i64 y, .int .i64 m2, .int .i64 m3, .int .i64 m4, .int .i64 m5, .int .i64 m6, .int .i64 m7, .bool m8, .int .i64 m9, .slice a n c] : Array Value)[j]? := ((C6.ext x7).ext x8).cell
        have R7' := Lib.hid (R7.out.ext x8)
        clear r8 q7 p7 x7 x8 R7
        rcases HW1.out with rfl | rfl
        · rcases HW2.out with rfl | rfl
          · have hne := HBY.out rfl rfl
            have hse : ((strOfNums D1).toList == (strOfNums D2).toList) = false := by
              rw [str_eq R7'.out.byt R8.out.byt]
              exact decide_eq_false hne
            have hsn : ((strOfNums D1).toList != (strOfNums D2).toList) = true := by
              unfold bne
              rw [hse]
              rfl
            have hc1 := R7'.out.conv (P := Try.prog) 25 9 5 Try.underlying25 Try.underlying5 Try.underlying9
            have hc2 := R8.out.conv (P := Try.prog) 25 9 5 Try.underlying25 Try.underlying5 Try.underlying9
            generalize strOfNums D1 = S1 at *
            generalize strOfNums D2 = S2 at *
            generalize D2.length = d2 at *
            clear hne hd1
            go_wp2_with fail
            refine (HSX.out _ X8).mono ?_
            rintro e w9 ⟨rfl, x9⟩
            go_wp2_with fail
            go_ret
            exact ⟨rfl, X8.trans x9⟩
          · clear hd1
            generalize D2.length = d2 at *
            go_wp2_with fail
            go_ret
            exact ⟨rfl, X8⟩
        · clear hd1
          generalize D2.length = d2 at *
          go_wp2_with fail
          go_ret
          exact ⟨rfl, X8⟩
      · have HO : Hid (Other ⟨m1, m2, m3, m4, m5, m6, m7, m8, m9, vs⟩ ⟨m1, wrap64 (m2.tmod 65535 + 1), m3, m4, m5, m6, m7, m8, m9, vs⟩) := Lib.hid (fld1 ⟨m1, m2, m3, m4, m5, m6, m7, m8, m9, vs⟩ HCH.out)
        go_upto_region 18 with fail
        generalize wrap64 (m2.tmod 65535 + 1) = y at *
        have C6 : Bk (w5.setCell ⟨X, 1, none⟩ (.int .i64 y)) X 71 #[.int .i64 m1, .int .i64 y, .int .i64 m3, .int .i64 m4, .int .i64 m5, .int .i64 m6, .int .i64 m7, .bool m8, .int .i64 m9, .slice a n c] := C5.setCell 1 _
        have B6 := B5.setOther (B' := X) (by omega) 1 (.int .i64 y)
        have X6 : Ext w (w5.setCell ⟨X, 1, none⟩ (.int .i64 y)) := X5.setCell (Nat.le_of_lt hlt) _
        generalize w5.setCell ⟨X, 1, none⟩ (.int .i64 y) = w6 at *
        have q6 : ∀ j, w6.cell? ⟨w.heap.size, j, none⟩ = (#[.int .i64 m1, .int .i64 m2, .int .i64 m3, .int .i64 m4, .int .i64 m5, .int .i64 m6, .int .i64 m7, .bool m8, .int .i64 m9, .slice a n c] : Array Value)[j]? := B6.cell
        have p6 : ∀ j, w6.cell? ⟨X, j, none⟩ = (#[.int .i64 m1, .int .i64 y, .int .i64 m3, .int .i64 m4, .int .i64 m5, .int .i64 m6, .int .i64 m7, .bool m8, .int .i64 m9, .slice a n c] : Array Value)[j]? := C6.cell
        have HEX := Lib.hid (fun w1 (he : Ext w w1) => HE2.out ⟨m1, y, m3, m4, m5, m6, m7, m8, m9, vs⟩ w1 he rfl)
        have HSX := Lib.hid (fun w1 (he : Ext w w1) => HSM.out ⟨m1, y, m3, m4, m5, m6, m7, m8, m9, vs⟩ w1 he rfl)
        rw [HO.out.no] at HSX
        have HBY := Lib.hid (HO.out.bytes HCH.out)
        have HW1 := Lib.hid (encME_ways ⟨m1, m2, m3, m4, m5, m6, m7, m8, m9, vs⟩ HCH.out)
        have HW2 := Lib.hid (encME_ways ⟨m1, y, m3, m4, m5, m6, m7, m8, m9, vs⟩ HO.out.ok)
        clear q5 p5 f5 B5 C5 X5 HE2 HSM HO HCH HT
        generalize encMB ⟨m1, m2, m3, m4, m5, m6, m7, m8, m9, vs⟩ = D1 at *
        generalize encMB ⟨m1, y, m3, m4, m5, m6, m7, m8, m9, vs⟩ = D2 at *
        generalize encME ⟨m1, m2, m3, m4, m5, m6, m7, m8, m9, vs⟩ = E1 at *
        generalize encME ⟨m1, y, m3, m4, m5, m6, m7, m8, m9, vs⟩ = E2 at *
        try simp only at *
        go_wp2_with fail
        refine (HE1.out _ X6).mono ?_
        rintro e w7 ⟨a7, c7, rfl, x7, r7⟩
        have R7 := Lib.hid (r7 Any (fun _ h => h.elim))
        have X7 := X6.trans x7
        have q7 : ∀ j, w7.cell? ⟨w.heap.size, j, none⟩ = (#[.int .i64 m1, .int .i64 m2, .int .i64 m3, .int .i64 m4, .int .i64 m5, .int .i64 m6, .int .i64 m7, .bool m8, .int .i64 m9, .slice a n c] : Array Value)[j]? := (B6.ext x7).cell
        have p7 : ∀ j, w7.cell? ⟨X, j, none⟩ = (#[.int .i64 m1, .int .i64 y, .int .i64 m3, .int .i64 m4, .int .i64 m5, .int .i64 m6, .int .i64 m7, .bool m8, .int .i64 m9, .slice a n c] : Array Value)[j]? := (C6.ext x7).cell
        clear r7 q6 p6
        generalize hd1 : D1.length = d1 at *
        go_wp2_with fail
        refine (HEX.out _ X7).mono ?_
        rintro e w8 ⟨a8, c8, rfl, x8, r8⟩
        have R8 := Lib.hid (r8 Any (fun _ h => h.elim))
        have X8 := X7.trans x8
        have q8 : ∀ j, w8.cell? ⟨w.heap.size, j, none⟩ = (#[.int .i64 m1, .int .i64 m2, .int .i64 m3, .int .i64 m4, .int .i64 m5, .int .i64 m6, .int .i64 m7, .bool m8, .int .i64 m9, .slice a n c] : Array Value)[j]? := ((B6.ext x7).ext x8).cell
        have p8 : ∀ j, w8.cell? ⟨X, j, none⟩ = (#[.int .i64 m1, .int .i64 y, .int .i64 m3, .int .i64 m4, .int .i64 m5, .int .i64 m6, .int .i64 m7, .bool m8, .int .i64 m9, .slice a n c] : Array Value)[j]? := ((C6.ext x7).ext x8).cell
        have R7' := Lib.hid (R7.out.ext x8)
        clear r8 q7 p7 x7 x8 R7
        rcases HW1.out with rfl | rfl
        · rcases HW2.out with rfl | rfl
          · have hne := HBY.out rfl rfl
            have hse : ((strOfNums D1).toList == (strOfNums D2).toList) = false := by
              rw [str_eq R7'.out.byt R8.out.byt]
              exact decide_eq_false hne
            have hsn : ((strOfNums D1).toList != (strOfNums D2).toList) = true := by
              unfold bne
              rw [hse]
              rfl
            have hc1 := R7'.out.conv (P := Try.prog) 25 9 5 Try.underlying25 Try.underlying5 Try.underlying9
            have hc2 := R8.out.conv (P := Try.prog) 25 9 5 Try.underlying25 Try.underlying5 Try.underlying9
            generalize strOfNums D1 = S1 at *
            generalize strOfNums D2 = S2 at *
            generalize D2.length = d2 at *
            clear hne hd1
            go_wp2_with fail
            refine (HSX.out _ X8).mono ?_
            rintro e w9 ⟨rfl, x9⟩
            go_wp2_with fail
            go_ret
            exact ⟨rfl, X8.trans x9⟩
          · clear hd1
            generalize D2.length = d2 at *
            go_wp2_with fail
            go_ret
            exact ⟨rfl, X8⟩
        · clear hd1
          generalize D2.length = d2 at *
          go_wp2_with fail
          go_ret
          exact ⟨rfl, X8⟩
      · have HO : Hid (Other ⟨m1, m2, m3, m4, m5, m6, m7, m8, m9, vs⟩ ⟨m1, m2, m3, m4, m5, wrap64 (m6.tmod 4294967295 + 1), m7, m8, m9, vs⟩) := Lib.hid (fld2 ⟨m1, m2, m3, m4, m5, m6, m7, m8, m9, vs⟩ HCH.out)
        go_upto_region 18 with fail
        generalize wrap64 (m6.tmod 4294967295 + 1) = y at *
        have C6 : Bk (w5.setCell ⟨X, 5, none⟩ (.int .i64 y)) X 71 #[.int .i64 m1, .int .i64 m2, .int .i64 m3, .int .i64 m4, .int .i64 m5, .int .i64 y, .int .i64 m7, .bool m8, .int .i64 m9, .slice a n c] := C5.setCell 5 _
        have B6 := B5.setOther (B' := X) (by omega) 5 (.int .i64 y)
        have X6 : Ext w (w5.setCell ⟨X, 5, none⟩ (.int .i64 y)) := X5.setCell (Nat.le_of_lt hlt) _
        generalize w5.setCell ⟨X, 5, none⟩ (.int .i64 y) = w6 at *
        have q6 : ∀ j, w6.cell? ⟨w.heap.size, j, none⟩ = (#[.int .i64 m1, .int .i64 m2, .int .i64 m3, .int .i64 m4, .int .i64 m5, .int .i64 m6, .int .i64 m7, .bool m8, .int .i64 m9, .slice a n c] : Array Value)[j]? := B6.cell
        have p6 : ∀ j, w6.cell? ⟨X, j, none⟩ = (#[.int .i64 m1, .int .i64 m2, .int .i64 m3, .int .i64 m4, .int .i64 m5, .int .i64 y, .int .i64 m7, .bool m8, .int .i64 m9, .slice a n c] : Array Value)[j]? := C6.cell
        have HEX := Lib.hid (fun w1 (he : Ext w w1) => HE2.out ⟨m1, m2, m3, m4, m5, y, m7, m8, m9, vs⟩ w1 he rfl)
        have HSX := Lib.hid (fun w1 (he : Ext w w1) => HSM.out ⟨m1, m2, m3, m4, m5, y, m7, m8, m9, vs⟩ w1 he rfl)
        rw [HO.out.no] at HSX
        have HBY := Lib.hid (HO.out.bytes HCH.out)
        have HW1 := Lib.hid (encME_ways ⟨m1, m2, m3, m4, m5, m6, m7, m8, m9, vs⟩ HCH.out)
        have HW2 := Lib.hid (encME_ways ⟨m1, m2, m3, m4, m5, y, m7, m8, m9, vs⟩ HO.out.ok)
        clear q5 p5 f5 B5 C5 X5 HE2 HSM HO HCH HT
        generalize encMB ⟨m1, m2, m3, m4, m5, m6, m7, m8, m9, vs⟩ = D1 at *
        generalize encMB ⟨m1, m2, m3, m4, m5, y, m7, m8, m9, vs⟩ = D2 at *
        generalize encME ⟨m1, m2, m3, m4, m5, m6, m7, m8, m9, vs⟩ = E1 at *
        generalize encME ⟨m1, m2, m3, m4, m5, y, m7, m8, m9, vs⟩ = E2 at *
        try simp only at *
        go_wp2_with fail
        refine (HE1.out _ X6).mono ?_
        rintro e w7 ⟨a7, c7, rfl, x7, r7⟩
        have R7 := Lib.hid (r7 Any (fun _ h => h.elim))
        have X7 := X6.trans x7
        have q7 : ∀ j, w7.cell? ⟨w.heap.size, j, none⟩ = (#[.int .i64 m1, .int .i64 m2, .int .i64 m3, .int .i64 m4, .int .i64 m5, .int .i64 m6, .int .i64 m7, .bool m8, .int .i64 m9, .slice a n c] : Array Value)[j]? := (B6.ext x7).cell
        have p7 : ∀ j, w7.cell? ⟨X, j, none⟩ = (#[.int .i64 m1, .int .i64 m2, .int .i64 m3, .int .i64 m4, .int .i64 m5, .int .i64 y, .int .i64 m7, .bool m8, .int .i64 m9, .slice a n c] : Array Value)[j]? := (C6.ext x7).cell
        clear r7 q6 p6
        generalize hd1 : D1.length = d1 at *
        go_wp2_with fail
        refine (HEX.out _ X7).mono ?_
        rintro e w8 ⟨a8, c8, rfl, x8, r8⟩
        have R8 := Lib.hid (r8 Any (fun _ h => h.elim))
        have X8 := X7.trans x8
        have q8 : ∀ j, w8.cell? ⟨w.heap.size, j, none⟩ = (#[.int .i64 m1, .int .i64 m2, .int .i64 m3, .int .i64 m4, .int .i64 m5, .int .i64 m6, .int .i64 m7, .bool m8, .int .i64 m9, .slice a n c] : Array Value)[j]? := ((B6.ext x7).ext x8).cell
        have p8 : ∀ j, w8.cell? ⟨X, j, none⟩ = (#[.int .i64 m1, .int .i64 m2, .int .i64 m3, .int .i64 m4, .int .i64 m5, .int .i64 y, .int .i64 m7, .bool m8, .int .i64 m9, .slice a n c] : Array Value)[j]? := ((C6.ext x7).ext x8).cell
        have R7' := Lib.hid (R7.out.ext x8)
        clear r8 q7 p7 x7 x8 R7
        rcases HW1.out with rfl | rfl
        · rcases HW2.out with rfl | rfl
          · have hne := HBY.out rfl rfl
            have hse : ((strOfNums D1).toList == (strOfNums D2).toList) = false := by
              rw [str_eq R7'.out.byt R8.out.byt]
              exact decide_eq_false hne
            have hsn : ((strOfNums D1).toList != (strOfNums D2).toList) = true := by
              unfold bne
              rw [hse]
              rfl
            have hc1 := R7'.out.conv (P := Try.prog) 25 9 5 Try.underlying25 Try.underlying5 Try.underlying9
            have hc2 := R8.out.conv (P := Try.prog) 25 9 5 Try.underlying25 Try.underlying5 Try.underlying9
            generalize strOfNums D1 = S1 at *
            generalize strOfNums D2 = S2 at *
            generalize D2.length = d2 at *
            clear hne hd1
            go_wp2_with fail
            refine (HSX.out _ X8).mono ?_
            rintro e w9 ⟨rfl, x9⟩
            go_wp2_with fail
            go_ret
            exact ⟨rfl, X8.trans x9⟩
          · clear hd1
            generalize D2.length = d2 at *
            go_wp2_with fail
            go_ret
            exact ⟨rfl, X8⟩
        · clear hd1
          generalize D2.length = d2 at *
          go_wp2_with fail
          go_ret
          exact ⟨rfl, X8⟩
      · have HO : Hid (Other ⟨m1, m2, m3, m4, m5, m6, m7, m8, m9, vs⟩ ⟨m1, m2, m3, m4, m5, m6, (wrap64 (m7 + 1)).tmod 4294967296, m8, m9, vs⟩) := Lib.hid (fld3 ⟨m1, m2, m3, m4, m5, m6, m7, m8, m9, vs⟩ HCH.out)
        go_upto_region 18 with fail
        generalize (wrap64 (m7 + 1)).tmod 4294967296 = y at *
        have C6 : Bk (w5.setCell ⟨X, 6, none⟩ (.int .i64 y)) X 71 #[.int .i64 m1, .int .i64 m2, .int .i64 m3, .int .i64 m4, .int .i64 m5, .int .i64 m6, .int .i64 y, .bool m8, .int .i64 m9, .slice a n c] := C5.setCell 6 _
        have B6 := B5.setOther (B' := X) (by omega) 6 (.int .i64 y)
        have X6 : Ext w (w5.setCell ⟨X, 6, none⟩ (.int .i64 y)) := X5.setCell (Nat.le_of_lt hlt) _
        generalize w5.setCell ⟨X, 6, none⟩ (.int .i64 y) = w6 at *
        have q6 : ∀ j, w6.cell? ⟨w.heap.size, j, none⟩ = (#[.int .i64 m1, .int .i64 m2, .int .i64 m3, .int .i64 m4, .int .i64 m5, .int .i64 m6, .int .i64 m7, .bool m8, .int .i64 m9, .slice a n c] : Array Value)[j]? := B6.cell
        have p6 : ∀ j, w6.cell? ⟨X, j, none⟩ = (#[.int .i64 m1, .int .i64 m2, .int .i64 m3, .int .i64 m4, .int .i64 m5, .int .i64 m6, .int .i64 y, .bool m8, .int .i64 m9, .slice a n c] : Array Value)[j]? := C6.cell
        have HEX := Lib.hid (fun w1 (he : Ext w w1) => HE2.out ⟨m1, m2, m3, m4, m5, m6, y, m8, m9, vs⟩ w1 he rfl)
        have HSX := Lib.hid (fun w1 (he : Ext w w1) => HSM.out ⟨m1, m2, m3, m4, m5, m6, y, m8, m9, vs⟩ w1 he rfl)
        rw [HO.out.no] at HSX
        have HBY := Lib.hid (HO.out.bytes HCH.out)
        have HW1 := Lib.hid (encME_ways ⟨m1, m2, m3, m4, m5, m6, m7, m8, m9, vs⟩ HCH.out)
        have HW2 := Lib.hid (encME_ways ⟨m1, m2, m3, m4, m5, m6, y, m8, m9, vs⟩ HO.out.ok)
        clear q5 p5 f5 B5 C5 X5 HE2 HSM HO HCH HT
        generalize encMB ⟨m1, m2, m3, m4, m5, m6, m7, m8, m9, vs⟩ = D1 at *
        generalize encMB ⟨m1, m2, m3, m4, m5, m6, y, m8, m9, vs⟩ = D2 at *
        generalize encME ⟨m1, m2, m3, m4, m5, m6, m7, m8, m9, vs⟩ = E1 at *
        generalize encME ⟨m1, m2, m3, m4, m5, m6, y, m8, m9, vs⟩ = E2 at *
        try simp only at *
        go_wp2_with fail
        refine (HE1.out _ X6).mono ?_
        rintro e w7 ⟨a7, c7, rfl, x7, r7⟩
        have R7 := Lib.hid (r7 Any (fun _ h => h.elim))
        have X7 := X6.trans x7
        have q7 : ∀ j, w7.cell? ⟨w.heap.size, j, none⟩ = (#[.int .i64 m1, .int .i64 m2, .int .i64 m3, .int .i64 m4, .int .i64 m5, .int .i64 m6, .int .i64 m7, .bool m8, .int .i64 m9, .slice a n c] : Array Value)[j]? := (B6.ext x7).cell
        have p7 : ∀ j, w7.cell? ⟨X, j, none⟩ = (#[.int .i64 m1, .int .i64 m2, .int .i64 m3, .int .i64 m4, .int .i64 m5, .int .i64 m6, .int .i64 y, .bool m8, .int .i64 m9, .slice a n c] : Array Value)[j]? := (C6.ext x7).cell
        clear r7 q6 p6
        generalize hd1 : D1.length = d1 at *
        go_wp2_with fail
        refine (HEX.out _ X7).mono ?_
        rintro e w8 ⟨a8, c8, rfl, x8, r8⟩
        have R8 := Lib.hid (r8 Any (fun _ h => h.elim))
        have X8 := X7.trans x8
        have q8 : ∀ j, w8.cell? ⟨w.heap.size, j, none⟩ = (#[.int .i64 m1, .int .i64 m2, .int .i64 m3, .int .i64 m4, .int .i64 m5, .int .i64 m6, .int .i64 m7, .bool m8, .int .i64 m9, .slice a n c] : Array Value)[j]? := ((B6.ext x7).ext x8).cell
        have p8 : ∀ j, w8.cell? ⟨X, j, none⟩ = (#[.int .i64 m1, .int .i64 m2, .int .i64 m3, .int .i64 m4, .int .i64 m5, .int .i64 m6, .int .i64 y, .bool m8, .int .i64 m9, .slice a n c] : Array Value)[j]? := ((C6.ext x7).ext x8).cell
        have R7' := Lib.hid (R7.out.ext x8)
        clear r8 q7 p7 x7 x8 R7
        rcases HW1.out with rfl | rfl
        · rcases HW2.out with rfl | rfl
          · have hne := HBY.out rfl rfl
            have hse : ((strOfNums D1).toList == (strOfNums D2).toList) = false := by
              rw [str_eq R7'.out.byt R8.out.byt]
              exact decide_eq_false hne
            have hsn : ((strOfNums D1).toList != (strOfNums D2).toList) = true := by
              unfold bne
              rw [hse]
              rfl
            have hc1 := R7'.out.conv (P := Try.prog) 25 9 5 Try.underlying25 Try.underlying5 Try.underlying9
            have hc2 := R8.out.conv (P := Try.prog) 25 9 5 Try.underlying25 Try.underlying5 Try.underlying9
            generalize strOfNums D1 = S1 at *
            generalize strOfNums D2 = S2 at *
            generalize D2.length = d2 at *
            clear hne hd1
            go_wp2_with fail
            refine (HSX.out _ X8).mono ?_
            rintro e w9 ⟨rfl, x9⟩
            go_wp2_with fail
            go_ret
            exact ⟨rfl, X8.trans x9⟩
          · clear hd1
            generalize D2.length = d2 at *
            go_wp2_with fail
            go_ret
            exact ⟨rfl, X8⟩
        · clear hd1
          generalize D2.length = d2 at *
          go_wp2_with fail
          go_ret
          exact ⟨rfl, X8⟩
      · have HO : Hid (Other ⟨m1, m2, m3, m4, m5, m6, m7, m8, m9, vs⟩ ⟨m1, m2, m3, m4, m5, m6, m7, m8, (wrap64 (m9 + 1)).tmod 4294967296, vs⟩) := Lib.hid (fld4 ⟨m1, m2, m3, m4, m5, m6, m7, m8, m9, vs⟩ HCH.out)
        go_upto_region 18 with fail
        generalize (wrap64 (m9 + 1)).tmod 4294967296 = y at *
        have C6 : Bk (w5.setCell ⟨X, 8, none⟩ (.int .i64 y)) X 71 #[.int .i64 m1, .int .i64 m2, .int .i64 m3, .int .i64 m4, .int .i64 m5, .int .i64 m6, .int .i64 m7, .bool m8, .int .i64 y, .slice a n c] := C5.setCell 8 _
        have B6 := B5.setOther (B' := X) (by omega) 8 (.int .i64 y)
        have X6 : Ext w (w5.setCell ⟨X, 8, none⟩ (.int .i64 y)) := X5.setCell (Nat.le_of_lt hlt) _
        generalize w5.setCell ⟨X, 8, none⟩ (.int .i64 y) = w6 at *
        have q6 : ∀ j, w6.cell? ⟨w.heap.size, j, none⟩ = (#[.int .i64 m1, .int .i64 m2, .int .i64 m3, .int .i64 m4, .int .i64 m5, .int .i64 m6, .int .i64 m7, .bool m8, .int .i64 m9, .slice a n c] : Array Value)[j]? := B6.cell
        have p6 : ∀ j, w6.cell? ⟨X, j, none⟩ = (#[.int .i64 m1, .int .i64 m2, .int .i64 m3, .int .i64 m4, .int .i64 m5, .int .i64 m6, .int .i64 m7, .bool m8, .int .i64 y, .slice a n c] : Array Value)[j]? := C6.cell
        have HEX := Lib.hid (fun w1 (he : Ext w w1) => HE2.out ⟨m1, m2, m3, m4, m5, m6, m7, m8, y, vs⟩ w1 he rfl)
        have HSX := Lib.hid (fun w1 (he : Ext w w1) => HSM.out ⟨m1, m2, m3, m4, m5, m6, m7, m8, y, vs⟩ w1 he rfl)
        rw [HO.out.no] at HSX
        have HBY := Lib.hid (HO.out.bytes HCH.out)
        have HW1 := Lib.hid (encME_ways ⟨m1, m2, m3, m4, m5, m6, m7, m8, m9, vs⟩ HCH.out)
        have HW2 := Lib.hid (encME_ways ⟨m1, m2, m3, m4, m5, m6, m7, m8, y, vs⟩ HO.out.ok)
        clear q5 p5 f5 B5 C5 X5 HE2 HSM HO HCH HT
        generalize encMB ⟨m1, m2, m3, m4, m5, m6, m7, m8, m9, vs⟩ = D1 at *
        generalize encMB ⟨m1, m2, m3, m4, m5, m6, m7, m8, y, vs⟩ = D2 at *
        generalize encME ⟨m1, m2, m3, m4, m5, m6, m7, m8, m9, vs⟩ = E1 at *
        generalize encME ⟨m1, m2, m3, m4, m5, m6, m7, m8, y, vs⟩ = E2 at *
        try simp only at *
        go_wp2_with fail
        refine (HE1.out _ X6).mono ?_
        rintro e w7 ⟨a7, c7, rfl, x7, r7⟩
        have R7 := Lib.hid (r7 Any (fun _ h => h.elim))
        have X7 := X6.trans x7
        have q7 : ∀ j, w7.cell? ⟨w.heap.size, j, none⟩ = (#[.int .i64 m1, .int .i64 m2, .int .i64 m3, .int .i64 m4, .int .i64 m5, .int .i64 m6, .int .i64 m7, .bool m8, .int .i64 m9, .slice a n c] : Array Value)[j]? := (B6.ext x7).cell
        have p7 : ∀ j, w7.cell? ⟨X, j, none⟩ = (#[.int .i64 m1, .int .i64 m2, .int .i64 m3, .int .i64 m4, .int .i64 m5, .int .i64 m6, .int .i64 m7, .bool m8, .int .i64 y, .slice a n c] : Array Value)[j]? := (C6.ext x7).cell
        clear r7 q6 p6
        generalize hd1 : D1.length = d1 at *
        go_wp2_with fail
        refine (HEX.out _ X7).mono ?_
        rintro e w8 ⟨a8, c8, rfl, x8, r8⟩
        have R8 := Lib.hid (r8 Any (fun _ h => h.elim))
        have X8 := X7.trans x8
        have q8 : ∀ j, w8.cell? ⟨w.heap.size, j, none⟩ = (#[.int .i64 m1, .int .i64 m2, .int .i64 m3, .int .i64 m4, .int .i64 m5, .int .i64 m6, .int .i64 m7, .bool m8, .int .i64 m9, .slice a n c] : Array Value)[j]? := ((B6.ext x7).ext x8).cell
        have p8 : ∀ j, w8.cell? ⟨X, j, none⟩ = (#[.int .i64 m1, .int .i64 m2, .int .i64 m3, .int .i64 m4, .int .i64 m5, .int .i64 m6, .int .i64 m7, .bool m8, .int .i64 y, .slice a n c] : Array Value)[j]? := ((C6.ext x7).ext x8).cell
        have R7' := Lib.hid (R7.out.ext x8)
        clear r8 q7 p7 x7 x8 R7
        rcases HW1.out with rfl | rfl
        · rcases HW2.out with rfl | rfl
          · have hne := HBY.out rfl rfl
            have hse : ((strOfNums D1).toList == (strOfNums D2).toList) = false := by
              rw [str_eq R7'.out.byt R8.out.byt]
              exact decide_eq_false hne
            have hsn : ((strOfNums D1).toList != (strOfNums D2).toList) = true := by
              unfold bne
              rw [hse]
              rfl
            have hc1 := R7'.out.conv (P := Try.prog) 25 9 5 Try.underlying25 Try.underlying5 Try.underlying9
            have hc2 := R8.out.conv (P := Try.prog) 25 9 5 Try.underlying25 Try.underlying5 Try.underlying9
            generalize strOfNums D1 = S1 at *
            generalize strOfNums D2 = S2 at *
            generalize D2.length = d2 at *
            clear hne hd1
            go_wp2_with fail
            refine (HSX.out _ X8).mono ?_
            rintro e w9 ⟨rfl, x9⟩
            go_wp2_with fail
            go_ret
            exact ⟨rfl, X8.trans x9⟩
          · clear hd1
            generalize D2.length = d2 at *
            go_wp2_with fail
            go_ret
            exact ⟨rfl, X8⟩
        · clear hd1
          generalize D2.length = d2 at *
          go_wp2_with fail
          go_ret
          exact ⟨rfl, X8⟩
      · have HO : Hid (Other ⟨m1, m2, m3, m4, m5, m6, m7, m8, m9, vs⟩ ⟨m1, m2, m3, m4, m5, m6, m7, (!m8), m9, vs⟩) := Lib.hid (fld5 ⟨m1, m2, m3, m4, m5, m6, m7, m8, m9, vs⟩ HCH.out)
        go_upto_region 18 with fail
        generalize (!m8) = y at *
        have C6 : Bk (w5.setCell ⟨X, 7, none⟩ (.bool y)) X 71 #[.int .i64 m1, .int .i64 m2, .int .i64 m3, .int .i64 m4, .int .i64 m5, .int .i64 m6, .int .i64 m7, .bool y, .int .i64 m9, .slice a n c] := C5.setCell 7 _
        have B6 := B5.setOther (B' := X) (by omega) 7 (.bool y)
        have X6 : Ext w (w5.setCell ⟨X, 7, none⟩ (.bool y)) := X5.setCell (Nat.le_of_lt hlt) _
        generalize w5.setCell ⟨X, 7, none⟩ (.bool y) = w6 at *
        have q6 : ∀ j, w6.cell? ⟨w.heap.size, j, none⟩ = (#[.int .i64 m1, .int .i64 m2, .int .i64 m3, .int .i64 m4, .int .i64 m5, .int .i64 m6, .int .i64 m7, .bool m8, .int .i64 m9, .slice a n c] : Array Value)[j]? := B6.cell
        have p6 : ∀ j, w6.cell? ⟨X, j, none⟩ = (#[.int .i64 m1, .int .i64 m2, .int .i64 m3, .int .i64 m4, .int .i64 m5, .int .i64 m6, .int .i64 m7, .bool y, .int .i64 m9, .slice a n c] : Array Value)[j]? := C6.cell
        have HEX := Lib.hid (fun w1 (he : Ext w w1) => HE2.out ⟨m1, m2, m3, m4, m5, m6, m7, y, m9, vs⟩ w1 he rfl)
        have HSX := Lib.hid (fun w1 (he : Ext w w1) => HSM.out ⟨m1, m2, m3, m4, m5, m6, m7, y, m9, vs⟩ w1 he rfl)
        rw [HO.out.no] at HSX
        have HBY := Lib.hid (HO.out.bytes HCH.out)
        have HW1 := Lib.hid (encME_ways ⟨m1, m2, m3, m4, m5, m6, m7, m8, m9, vs⟩ HCH.out)
        have HW2 := Lib.hid (encME_ways ⟨m1, m2, m3, m4, m5, m6, m7, y, m9, vs⟩ HO.out.ok)
        clear q5 p5 f5 B5 C5 X5 HE2 HSM HO HCH HT
        generalize encMB ⟨m1, m2, m3, m4, m5, m6, m7, m8, m9, vs⟩ = D1 at *
        generalize encMB ⟨m1, m2, m3, m4, m5, m6, m7, y, m9, vs⟩ = D2 at *
        generalize encME ⟨m1, m2, m3, m4, m5, m6, m7, m8, m9, vs⟩ = E1 at *
        generalize encME ⟨m1, m2, m3, m4, m5, m6, m7, y, m9, vs⟩ = E2 at *
        try simp only at *
        go_wp2_with fail
        refine (HE1.out _ X6).mono ?_
        rintro e w7 ⟨a7, c7, rfl, x7, r7⟩
        have R7 := Lib.hid (r7 Any (fun _ h => h.elim))
        have X7 := X6.trans x7
        have q7 : ∀ j, w7.cell? ⟨w.heap.size, j, none⟩ = (#[.int .i64 m1, .int .i64 m2, .int .i64 m3, .int .i64 m4, .int .i64 m5, .int .i64 m6, .int .i64 m7, .bool m8, .int .i64 m9, .slice a n c] : Array Value)[j]? := (B6.ext x7).cell
        have p7 : ∀ j, w7.cell? ⟨X, j, none⟩ = (#[.int .i64 m1, .int .i64 m2, .int .i64 m3, .int .i64 m4, .int .i64 m5, .int .i64 m6, .int .i64 m7, .bool y, .int .i64 m9, .slice a n c] : Array Value)[j]? := (C6.ext x7).cell
        clear r7 q6 p6
        generalize hd1 : D1.length = d1 at *
        go_wp2_with fail
        refine (HEX.out _ X7).mono ?_
        rintro e w8 ⟨a8, c8, rfl, x8, r8⟩
        have R8 := Lib.hid (r8 Any (fun _ h => h.elim))
        have X8 := X7.trans x8
        have q8 : ∀ j, w8.cell? ⟨w.heap.size, j, none⟩ = (#[.int .i64 m1, .int .i64 m2, .int .i64 m3, .int .i64 m4, .int .i64 m5, .int .i64 m6, .int .i64 m7, .bool m8, .int .i64 m9, .slice a n c] : Array Value)[j]? := ((B6.ext x7).ext x8).cell
        have p8 : ∀ j, w8.cell? ⟨X, j, none⟩ = (#[.int .i64 m1, .int .i64 m2, .int .i64 m3, .int .i64 m4, .int .i64 m5, .int .i64 m6, .int .i64 m7, .bool y, .int .i64 m9, .slice a n c] : Array Value)[j]? := ((C6.ext x7).ext x8).cell
        have R7' := Lib.hid (R7.out.ext x8)
        clear r8 q7 p7 x7 x8 R7
        rcases HW1.out with rfl | rfl
        · rcases HW2.out with rfl | rfl
          · have hne := HBY.out rfl rfl
            have hse : ((strOfNums D1).toList == (strOfNums D2).toList) = false := by
              rw [str_eq R7'.out.byt R8.out.byt]
              exact decide_eq_false hne
            have hsn : ((strOfNums D1).toList != (strOfNums D2).toList) = true := by
              unfold bne
              rw [hse]
              rfl
            have hc1 := R7'.out.conv (P := Try.prog) 25 9 5 Try.underlying25 Try.underlying5 Try.underlying9
            have hc2 := R8.out.conv (P := Try.prog) 25 9 5 Try.underlying25 Try.underlying5 Try.underlying9
            generalize strOfNums D1 = S1 at *
            generalize strOfNums D2 = S2 at *
            generalize D2.length = d2 at *
            clear hne hd1
            go_wp2_with fail
            refine (HSX.out _ X8).mono ?_
            rintro e w9 ⟨rfl, x9⟩
            go_wp2_with fail
            go_ret
            exact ⟨rfl, X8.trans x9⟩
          · clear hd1
            generalize D2.length = d2 at *
            go_wp2_with fail
            go_ret
            exact ⟨rfl, X8⟩
        · clear hd1
          generalize D2.length = d2 at *
          go_wp2_with fail
          go_ret
          exact ⟨rfl, X8⟩
    · have hcb : (chkM m != 0) = true := by simpa using hch
      clear HE1 HE2 HSM
      obtain ⟨ce, hce⟩ : ∃ ce, chkM m = ce := ⟨_, rfl⟩
      rw [hce] at HCR hcb
      clear hce hch
      obtain ⟨m1, m2, m3, m4, m5, m6, m7, m8, m9, vs⟩ := m
      simp only at *
      generalize hn : vs.length = n at *
      have HNN := Lib.hid hn
      clear hn hv hlg hle
      go_enter Try.func12, Try.ntmps12
      go_upto_region 1 with fail
      have BV := Bk.new w #[.int .i64 m1, .int .i64 m2, .int .i64 m3, .int .i64 m4, .int .i64 m5, .int .i64 m6, .int .i64 m7, .bool m8, .int .i64 m9, .slice a n c] 71 w.heap.size rfl
      have X0 : Ext w (w.alloc (.cells #[.int .i64 m1, .int .i64 m2, .int .i64 m3, .int .i64 m4, .int .i64 m5, .int .i64 m6, .int .i64 m7, .bool m8, .int .i64 m9, .slice a n c] 71)) := (Ext.refl w).alloc _
      generalize w.alloc (.cells #[.int .i64 m1, .int .i64 m2, .int .i64 m3, .int .i64 m4, .int .i64 m5, .int .i64 m6, .int .i64 m7, .bool m8, .int .i64 m9, .slice a n c] 71) = W at *
      go_wp2_with fail
      refine (HK.out _).mono ?_
      rintro e w1 ⟨rfl, x1⟩
      have X1 := X0.trans x1
      have q1 : ∀ j, w1.cell? ⟨w.heap.size, j, none⟩ = (#[.int .i64 m1, .int .i64 m2, .int .i64 m3, .int .i64 m4, .int .i64 m5, .int .i64 m6, .int .i64 m7, .bool m8, .int .i64 m9, .slice a n c] : Array Value)[j]? := (BV.ext x1).cell
      go_wp2_with fail
      refine (HLG.out _ X1).mono ?_
      rintro e w1' ⟨rfl, rfl⟩
      go_wp2_with fail
      refine (HT.out _ X1).mono ?_
      rintro e w3 ⟨a3, c3, he, x3, r3⟩
      simp only [HNN.out] at he r3
      subst he
      have HC3 := Lib.hid (HCR.out _ w3 (r3.weak (by omega) (fun _ _ h => h.elim)))
      clear r3
      go_wp2_with fail
      refine HC3.out.mono ?_
      rintro e w4 ⟨rfl, x4⟩
      go_wp2_with fail
      go_ret
      exact ⟨rfl, (X1.trans x3).trans x4⟩
  · rw [hlg] at HLG
    obtain ⟨a, c, rfl, hc1, hc2⟩ := hv.form
    clear HE1 HE2 HSM HCR hv hlg
    obtain ⟨m1, m2, m3, m4, m5, m6, m7, m8, m9, vs⟩ := m
    simp only at *
    generalize vs.length = n at *
    go_enter Try.func12, Try.ntmps12
    go_upto_region 1 with fail
    have BV := Bk.new w #[.int .i64 m1, .int .i64 m2, .int .i64 m3, .int .i64 m4, .int .i64 m5, .int .i64 m6, .int .i64 m7, .bool m8, .int .i64 m9, .slice a n c] 71 w.heap.size rfl
    have X0 : Ext w (w.alloc (.cells #[.int .i64 m1, .int .i64 m2, .int .i64 m3, .int .i64 m4, .int .i64 m5, .int .i64 m6, .int .i64 m7, .bool m8, .int .i64 m9, .slice a n c] 71)) := (Ext.refl w).alloc _
    generalize w.alloc (.cells #[.int .i64 m1, .int .i64 m2, .int .i64 m3, .int .i64 m4, .int .i64 m5, .int .i64 m6, .int .i64 m7, .bool m8, .int .i64 m9, .slice a n c] 71) = W at *
    go_wp2_with fail
    refine (HK.out _).mono ?_
    rintro e w1 ⟨rfl, x1⟩
    have X1 := X0.trans x1
    have q1 : ∀ j, w1.cell? ⟨w.heap.size, j, none⟩ = (#[.int .i64 m1, .int .i64 m2, .int .i64 m3, .int .i64 m4, .int .i64 m5, .int .i64 m6, .int .i64 m7, .bool m8, .int .i64 m9, .slice a n c] : Array Value)[j]? := (BV.ext x1).cell
    go_wp2_with fail
    refine (HLG.out _ X1).mono ?_
    rintro e w1' ⟨rfl, rfl⟩
    go_wp2_with fail
    go_ret
    exact ⟨rfl, X1⟩
end Go.Proofs.Ytjaofbfppnmdjaa
