/- The walk of the statement MessageChecks. -/
import Derived.Test.YtjaofbfppnmdjaaMsgK
namespace Go.Proofs.Ytjaofbfppnmdjaa
open Go.RowKit
attribute [local go_sem ↓] Go.wp_at_zero Go.wp_at_succ

theorem large_le {l : List Val} (h : largeB l = false) : l.length ≤ 60 := by
  unfold largeB at h
  simp only [Bool.or_eq_false_iff, decide_eq_false_iff_not] at h
  omega
set_option maxRecDepth 100000 in
set_option maxHeartbeats 16000000 in
theorem mchecks_walk (a b : Msg) (va vb : Value) (w : World) (ha : RF Any 6 valE w va a.vals) (hb : RF Any 6 valE w vb b.vals) : Calls Try.prog 11 #[msgA a va, msgA b vb] w fun e w' => e = .returned (.bool true) ∧ Ext w w' := by
  have HK := Lib.hid (fun w1 => known12_any w1)
  have HLa := Lib.hid (fun w1 (he : Ext w w1) => large11_any a.vals va w1 (ha.ext he))
  have HLb := Lib.hid (fun w1 (he : Ext w w1) => large11_any b.vals vb w1 (hb.ext he))
  have HSab := Lib.hid (fun w1 (he : Ext w w1) => sameMP_any a b va vb w1 (ha.ext he) (hb.ext he))
  have HSaa := Lib.hid (fun w1 (he : Ext w w1) => sameMP_any a a va va w1 (ha.ext he) (ha.ext he))
  rw [show sameM a a = true by simp [sameM]] at HSaa
  have HIa := Lib.hid (fun w1 (he : Ext w w1) => ha.ext he)
  have HIb := Lib.hid (fun w1 (he : Ext w w1) => hb.ext he)
  have HSR := Lib.hid (fun va vb w1 h h' => sameMR_any a b va vb w1 h h')
  have HCK := Lib.hid (fun w1 (he : Ext w w1) => checkM_any a va w1 (ha.ext he))
  have HCR := Lib.hid (fun va w1 h => checkMR_any a va w1 h)
  generalize chkM a = cx at *
  generalize sameM a b = r at *
  obtain ⟨ja, jc, rfl, hj1, hj2⟩ := ha.form
  obtain ⟨ka, kc, rfl, hk1, hk2⟩ := hb.form
  clear ha hb
  have hcc : (cx == cx) = true := by simp
  have hrr : (r == r) = true := by simp
  cases hla : largeB a.vals
  · have hle1 := large_le hla
    rw [hla] at HLa
    cases hlb : largeB b.vals
    · have hle2 := large_le hlb
      rw [hlb] at HLb
      have HTa := Lib.hid (fun w1 (he : Ext w w1) => to12_any a _ w1 (HIa.out w1 he) (by omega))
      have HTb := Lib.hid (fun w1 (he : Ext w w1) => to12_any b _ w1 (HIb.out w1 he) (by omega))
      obtain ⟨a1, a2, a3, a4, a5, a6, a7, a8, a9, la⟩ := a
      obtain ⟨b1, b2, b3, b4, b5, b6, b7, b8, b9, lb⟩ := b
      simp only at *
      generalize hna : la.length = na at *
      generalize hnb : lb.length = nb at *
      have HNA := Lib.hid hna
      have HNB := Lib.hid hnb
      clear hla hlb HIa HIb hna hnb
      go_enter Try.func11, Try.ntmps11
      go_upto_region 1 with fail
      have BA0 := (Bk.new w #[.int .i64 a1, .int .i64 a2, .int .i64 a3, .int .i64 a4, .int .i64 a5, .int .i64 a6, .int .i64 a7, .bool a8, .int .i64 a9, .slice ja na jc] 71 w.heap.size rfl).alloc (.cells #[.int .i64 b1, .int .i64 b2, .int .i64 b3, .int .i64 b4, .int .i64 b5, .int .i64 b6, .int .i64 b7, .bool b8, .int .i64 b9, .slice ka nb kc] 71)
      have BB0 := Bk.new (w.alloc (.cells #[.int .i64 a1, .int .i64 a2, .int .i64 a3, .int .i64 a4, .int .i64 a5, .int .i64 a6, .int .i64 a7, .bool a8, .int .i64 a9, .slice ja na jc] 71)) #[.int .i64 b1, .int .i64 b2, .int .i64 b3, .int .i64 b4, .int .i64 b5, .int .i64 b6, .int .i64 b7, .bool b8, .int .i64 b9, .slice ka nb kc] 71 (w.heap.size + 1) (by simp)
      have Z0 : Ext w ((w.alloc (.cells #[.int .i64 a1, .int .i64 a2, .int .i64 a3, .int .i64 a4, .int .i64 a5, .int .i64 a6, .int .i64 a7, .bool a8, .int .i64 a9, .slice ja na jc] 71)).alloc (.cells #[.int .i64 b1, .int .i64 b2, .int .i64 b3, .int .i64 b4, .int .i64 b5, .int .i64 b6, .int .i64 b7, .bool b8, .int .i64 b9, .slice ka nb kc] 71)) := ((Ext.refl w).alloc _).alloc _
      generalize (w.alloc (.cells #[.int .i64 a1, .int .i64 a2, .int .i64 a3, .int .i64 a4, .int .i64 a5, .int .i64 a6, .int .i64 a7, .bool a8, .int .i64 a9, .slice ja na jc] 71)).alloc (.cells #[.int .i64 b1, .int .i64 b2, .int .i64 b3, .int .i64 b4, .int .i64 b5, .int .i64 b6, .int .i64 b7, .bool b8, .int .i64 b9, .slice ka nb kc] 71) = W0 at *
      go_wp2_with fail
      refine (HK.out _).mono ?_
      rintro e w1 ⟨rfl, x1⟩
      have X1 : Ext w w1 := Z0.trans x1
      have BA := BA0.ext x1
      have BB := BB0.ext x1
      clear BA0 BB0 Z0 x1
      have qa : ∀ j, w1.cell? ⟨w.heap.size, j, none⟩ = (#[.int .i64 a1, .int .i64 a2, .int .i64 a3, .int .i64 a4, .int .i64 a5, .int .i64 a6, .int .i64 a7, .bool a8, .int .i64 a9, .slice ja na jc] : Array Value)[j]? := BA.cell
      have qb : ∀ j, w1.cell? ⟨w.heap.size + 1, j, none⟩ = (#[.int .i64 b1, .int .i64 b2, .int .i64 b3, .int .i64 b4, .int .i64 b5, .int .i64 b6, .int .i64 b7, .bool b8, .int .i64 b9, .slice ka nb kc] : Array Value)[j]? := BB.cell
      go_wp2_with fail
      refine (HLa.out _ X1).mono ?_
      rintro e w1' ⟨rfl, rfl⟩
      go_wp2_with fail
      refine (HLb.out _ X1).mono ?_
      rintro e w1' ⟨rfl, rfl⟩
      go_upto_region 5 with fail
      obtain ⟨W, rfl⟩ : ∃ W, W = w1 := ⟨_, rfl⟩
      have X0 := X1
      clear qa qb X1
      have HBC : Hid (∀ w', Ext W w' → (∀ j, w'.cell? ⟨w.heap.size, j, none⟩ = (#[.int .i64 a1, .int .i64 a2, .int .i64 a3, .int .i64 a4, .int .i64 a5, .int .i64 a6, .int .i64 a7, .bool a8, .int .i64 a9, .slice ja na jc] : Array Value)[j]?) ∧ (∀ j, w'.cell? ⟨w.heap.size + 1, j, none⟩ = (#[.int .i64 b1, .int .i64 b2, .int .i64 b3, .int .i64 b4, .int .i64 b5, .int .i64 b6, .int .i64 b7, .bool b8, .int .i64 b9, .slice ka nb kc] : Array Value)[j]?)) := fun w' he => ⟨(BA.ext he).cell, (BB.ext he).cell⟩
      clear BA BB
      go_region_held3 (fun w' => (∀ j, w'.cell? ⟨w.heap.size, j, none⟩ = (#[.int .i64 a1, .int .i64 a2, .int .i64 a3, .int .i64 a4, .int .i64 a5, .int .i64 a6, .int .i64 a7, .bool a8, .int .i64 a9, .slice ja na jc] : Array Value)[j]?) ∧ (∀ j, w'.cell? ⟨w.heap.size + 1, j, none⟩ = (#[.int .i64 b1, .int .i64 b2, .int .i64 b3, .int .i64 b4, .int .i64 b5, .int .i64 b6, .int .i64 b7, .bool b8, .int .i64 b9, .slice ka nb kc] : Array Value)[j]?))
        (first | (exact HBC.out _ (by first | (with_reducible exact (Ext.refl W).drew) | (with_reducible exact D1) | (with_reducible exact D2) | (with_reducible exact D3) | (with_reducible exact D4) | (with_reducible exact D5) | (with_reducible exact D6) | (with_reducible exact D7) | (with_reducible exact D8))) | fail)
        (first
          | (go_at_call 40; (with_reducible refine (HCK.out _ X0.drew).mono ?_); rintro e y1 ⟨rfl, t1⟩; have D1 : Ext W y1 := (Ext.refl W).drew.trans t1; clear t1)
          | (go_at_call 39; (with_reducible refine (HTa.out _ (X0.trans D1)).mono ?_); rintro e y2 ⟨p2, r2, he, t2, u2⟩; have D2 : Ext W y2 := D1.trans t2; simp only [HNA.out] at he u2; subst he; have HR2 := Lib.hid (u2.weak (by omega) (V' := Any) (fun _ _ h => h.elim)); clear u2; clear t2)
          | (go_at_call 41; (with_reducible refine (HCR.out _ _ HR2.out).mono ?_); rintro e y3 ⟨rfl, t3⟩; have D3 : Ext W y3 := D2.trans t3; clear t3)
          | (go_at_call 42; (with_reducible refine (HSab.out _ (X0.trans D3)).mono ?_); rintro e y4 ⟨rfl, t4⟩; have D4 : Ext W y4 := D3.trans t4; clear t4)
          | (go_at_call 39; (with_reducible refine (HTa.out _ (X0.trans D4)).mono ?_); rintro e y5 ⟨p5, r5, he, t5, u5⟩; have D5 : Ext W y5 := D4.trans t5; simp only [HNA.out] at he u5; subst he; have HR5 := Lib.hid (fun w1 (he : Ext y5 w1) => (u5.ext he).weak (by omega) (V' := Any) (fun _ _ h => h.elim)); clear u5; clear t5)
          | (go_at_call 39; (with_reducible refine (HTb.out _ (X0.trans D5)).mono ?_); rintro e y6 ⟨p6, r6, he, t6, u6⟩; have D6 : Ext W y6 := D5.trans t6; simp only [HNB.out] at he u6; subst he; have HR6 := Lib.hid (And.intro (HR5.out _ t6) (u6.weak (by omega) (V' := Any) (fun _ _ h => h.elim))); clear u6; clear t6)
          | (go_at_call 43; (with_reducible refine (HSR.out _ _ _ HR6.out.1 HR6.out.2).mono ?_); rintro e y7 ⟨rfl, t7⟩; have D7 : Ext W y7 := D6.trans t7; clear t7)
          | (go_at_call 42; (with_reducible refine (HSaa.out _ (X0.trans D7)).mono ?_); rintro e y8 ⟨rfl, t8⟩; have D8 : Ext W y8 := D7.trans t8; clear t8)
          | fail)
      go_wp2_with fail
      go_ret
      exact ⟨rfl, X0.trans D8⟩
    · rw [hlb] at HLb
      obtain ⟨a1, a2, a3, a4, a5, a6, a7, a8, a9, la⟩ := a
      obtain ⟨b1, b2, b3, b4, b5, b6, b7, b8, b9, lb⟩ := b
      simp only at *
      generalize la.length = na at *
      generalize lb.length = nb at *
      clear HIa HIb hla hlb HSab HSaa HSR HCK HCR
      go_enter Try.func11, Try.ntmps11
      go_upto_region 1 with fail
      have BA0 := (Bk.new w #[.int .i64 a1, .int .i64 a2, .int .i64 a3, .int .i64 a4, .int .i64 a5, .int .i64 a6, .int .i64 a7, .bool a8, .int .i64 a9, .slice ja na jc] 71 w.heap.size rfl).alloc (.cells #[.int .i64 b1, .int .i64 b2, .int .i64 b3, .int .i64 b4, .int .i64 b5, .int .i64 b6, .int .i64 b7, .bool b8, .int .i64 b9, .slice ka nb kc] 71)
      have BB0 := Bk.new (w.alloc (.cells #[.int .i64 a1, .int .i64 a2, .int .i64 a3, .int .i64 a4, .int .i64 a5, .int .i64 a6, .int .i64 a7, .bool a8, .int .i64 a9, .slice ja na jc] 71)) #[.int .i64 b1, .int .i64 b2, .int .i64 b3, .int .i64 b4, .int .i64 b5, .int .i64 b6, .int .i64 b7, .bool b8, .int .i64 b9, .slice ka nb kc] 71 (w.heap.size + 1) (by simp)
      have Z0 : Ext w ((w.alloc (.cells #[.int .i64 a1, .int .i64 a2, .int .i64 a3, .int .i64 a4, .int .i64 a5, .int .i64 a6, .int .i64 a7, .bool a8, .int .i64 a9, .slice ja na jc] 71)).alloc (.cells #[.int .i64 b1, .int .i64 b2, .int .i64 b3, .int .i64 b4, .int .i64 b5, .int .i64 b6, .int .i64 b7, .bool b8, .int .i64 b9, .slice ka nb kc] 71)) := ((Ext.refl w).alloc _).alloc _
      generalize (w.alloc (.cells #[.int .i64 a1, .int .i64 a2, .int .i64 a3, .int .i64 a4, .int .i64 a5, .int .i64 a6, .int .i64 a7, .bool a8, .int .i64 a9, .slice ja na jc] 71)).alloc (.cells #[.int .i64 b1, .int .i64 b2, .int .i64 b3, .int .i64 b4, .int .i64 b5, .int .i64 b6, .int .i64 b7, .bool b8, .int .i64 b9, .slice ka nb kc] 71) = W0 at *
      go_wp2_with fail
      refine (HK.out _).mono ?_
      rintro e w1 ⟨rfl, x1⟩
      have X1 : Ext w w1 := Z0.trans x1
      have BA := BA0.ext x1
      have BB := BB0.ext x1
      clear BA0 BB0 Z0 x1
      have qa : ∀ j, w1.cell? ⟨w.heap.size, j, none⟩ = (#[.int .i64 a1, .int .i64 a2, .int .i64 a3, .int .i64 a4, .int .i64 a5, .int .i64 a6, .int .i64 a7, .bool a8, .int .i64 a9, .slice ja na jc] : Array Value)[j]? := BA.cell
      have qb : ∀ j, w1.cell? ⟨w.heap.size + 1, j, none⟩ = (#[.int .i64 b1, .int .i64 b2, .int .i64 b3, .int .i64 b4, .int .i64 b5, .int .i64 b6, .int .i64 b7, .bool b8, .int .i64 b9, .slice ka nb kc] : Array Value)[j]? := BB.cell
      go_wp2_with fail
      refine (HLa.out _ X1).mono ?_
      rintro e w1' ⟨rfl, rfl⟩
      go_wp2_with fail
      refine (HLb.out _ X1).mono ?_
      rintro e w1' ⟨rfl, rfl⟩
      go_wp2_with fail
      go_ret
      exact ⟨rfl, X1⟩
  · rw [hla] at HLa
    obtain ⟨a1, a2, a3, a4, a5, a6, a7, a8, a9, la⟩ := a
    obtain ⟨b1, b2, b3, b4, b5, b6, b7, b8, b9, lb⟩ := b
    simp only at *
    generalize la.length = na at *
    generalize lb.length = nb at *
    clear HIa HIb hla HSab HSaa HSR HCK HCR
    go_enter Try.func11, Try.ntmps11
    go_upto_region 1 with fail
    have BA0 := (Bk.new w #[.int .i64 a1, .int .i64 a2, .int .i64 a3, .int .i64 a4, .int .i64 a5, .int .i64 a6, .int .i64 a7, .bool a8, .int .i64 a9, .slice ja na jc] 71 w.heap.size rfl).alloc (.cells #[.int .i64 b1, .int .i64 b2, .int .i64 b3, .int .i64 b4, .int .i64 b5, .int .i64 b6, .int .i64 b7, .bool b8, .int .i64 b9, .slice ka nb kc] 71)
    have BB0 := Bk.new (w.alloc (.cells #[.int .i64 a1, .int .i64 a2, .int .i64 a3, .int .i64 a4, .int .i64 a5, .int .i64 a6, .int .i64 a7, .bool a8, .int .i64 a9, .slice ja na jc] 71)) #[.int .i64 b1, .int .i64 b2, .int .i64 b3, .int .i64 b4, .int .i64 b5, .int .i64 b6, .int .i64 b7, .bool b8, .int .i64 b9, .slice ka nb kc] 71 (w.heap.size + 1) (by simp)
    have Z0 : Ext w ((w.alloc (.cells #[.int .i64 a1, .int .i64 a2, .int .i64 a3, .int .i64 a4, .int .i64 a5, .int .i64 a6, .int .i64 a7, .bool a8, .int .i64 a9, .slice ja na jc] 71)).alloc (.cells #[.int .i64 b1, .int .i64 b2, .int .i64 b3, .int .i64 b4, .int .i64 b5, .int .i64 b6, .int .i64 b7, .bool b8, .int .i64 b9, .slice ka nb kc] 71)) := ((Ext.refl w).alloc _).alloc _
    generalize (w.alloc (.cells #[.int .i64 a1, .int .i64 a2, .int .i64 a3, .int .i64 a4, .int .i64 a5, .int .i64 a6, .int .i64 a7, .bool a8, .int .i64 a9, .slice ja na jc] 71)).alloc (.cells #[.int .i64 b1, .int .i64 b2, .int .i64 b3, .int .i64 b4, .int .i64 b5, .int .i64 b6, .int .i64 b7, .bool b8, .int .i64 b9, .slice ka nb kc] 71) = W0 at *
    go_wp2_with fail
    refine (HK.out _).mono ?_
    rintro e w1 ⟨rfl, x1⟩
    have X1 : Ext w w1 := Z0.trans x1
    have BA := BA0.ext x1
    have BB := BB0.ext x1
    clear BA0 BB0 Z0 x1
    have qa : ∀ j, w1.cell? ⟨w.heap.size, j, none⟩ = (#[.int .i64 a1, .int .i64 a2, .int .i64 a3, .int .i64 a4, .int .i64 a5, .int .i64 a6, .int .i64 a7, .bool a8, .int .i64 a9, .slice ja na jc] : Array Value)[j]? := BA.cell
    have qb : ∀ j, w1.cell? ⟨w.heap.size + 1, j, none⟩ = (#[.int .i64 b1, .int .i64 b2, .int .i64 b3, .int .i64 b4, .int .i64 b5, .int .i64 b6, .int .i64 b7, .bool b8, .int .i64 b9, .slice ka nb kc] : Array Value)[j]? := BB.cell
    go_wp2_with fail
    refine (HLa.out _ X1).mono ?_
    rintro e w1' ⟨rfl, rfl⟩
    go_wp2_with fail
    go_ret
    exact ⟨rfl, X1⟩
end Go.Proofs.Ytjaofbfppnmdjaa
