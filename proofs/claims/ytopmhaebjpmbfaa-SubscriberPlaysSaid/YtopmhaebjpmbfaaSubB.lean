/- What Take does where it accepts: layer 14. -/
import Derived.Test.YtopmhaebjpmbfaaSubA
namespace Go.Proofs.Ytopmhaebjpmbfaa
open Go.RowKit
attribute [local go_sem ↓] Go.wp_at_zero Go.wp_at_succ

set_option maxRecDepth 100000 in
set_option maxHeartbeats 4000000 in
theorem accept_any (s : SSt) (m : Msg) (v u : Value) (bs bm : Nat) (k r : Int) (w : World) (hs : Bk w bs 50 (subC s v)) (hm : Bk w bm 39 (msgC m u)) (hu : RF Any 6 valE w u m.vals) (hl : m.vals.length ≤ 1000000000) (hw : s.lost < 1000000 → IntKind.i64.wrap (s.lost + k) = s.lost + k) :
    Calls Try.prog 52 #[.int .i64 k, .int .i64 r, .pointer (some ⟨bs, 0, none⟩), .pointer (some ⟨bm, 0, none⟩)] w (RetT w (accS s m k, r)) := by
  have HR := Lib.hid (fun w1 => raised_any s.lost k 1000000 w1 hw)
  have HC := Lib.hid (fun w1 (he : Ext w w1) => cloneVals_any m.vals u w1 (hu.ext he) hl)
  obtain ⟨am, cm, rfl, _, _⟩ := hu.form
  have HF : Hid (∀ w' a' c', Ext w w' → RF (Old w) 6 valE w' (.slice a' m.vals.length c') m.vals → RetT w (accS s m k, r) (.returned (.tuple #[.agg #[.int .i64 s.pub, .int .i64 s.rev, .bool true, .int .i64 m.state, .int .i64 m.seq, .int .i64 m.ttl, .int .i64 (raiseS s.lost k), .bool m.test, .slice a' m.vals.length c'], .int .i64 r])) w') := fun w' a' c' he hr => ⟨a', c', rfl, he, hr⟩
  rw [show (if 1000000 ≤ s.lost ∨ 1000000 ≤ s.lost + k then 1000000 else s.lost + k) = raiseS s.lost k from rfl] at HR
  generalize raiseS s.lost k = r7 at *
  generalize hss : RetT w (accS s m k, r) = R at *
  clear hss hu hl hw
  obtain ⟨s1, s2, s3, s4, s5, s6, s7, s8, vs⟩ := s
  obtain ⟨m1, m2, m3, m4, m5, m6, m7, m8, m9, vm⟩ := m
  simp only at *
  generalize hn : vm.length = nm at *
  have HNN := Lib.hid hn
  clear hn
  have lbs := hs.lt
  have lbm := hm.lt
  go_enter Try.func52, Try.ntmps52
  go_wp2_with fail
  have X0 : Ext w (w.alloc (.cells #[.int .i64 0, .int .i64 0, .bool false, .int .i64 0, .int .i64 0, .int .i64 0, .int .i64 0, .bool false, .slice none 0 0] 50)) := (Ext.refl w).alloc _
  have BR := Lib.hid (Bk.new w #[.int .i64 0, .int .i64 0, .bool false, .int .i64 0, .int .i64 0, .int .i64 0, .int .i64 0, .bool false, .slice none 0 0] 50 w.heap.size rfl)
  have BS := hs.ext X0
  have BM := hm.ext X0
  have qs := BS.cell
  have qm := BM.cell
  generalize w.alloc (.cells #[.int .i64 0, .int .i64 0, .bool false, .int .i64 0, .int .i64 0, .int .i64 0, .int .i64 0, .bool false, .slice none 0 0] 50) = W at *
  have HBC := Lib.hid (fun w' (he : Ext W w') => And.intro (BS.ext he).cell (BM.ext he).cell)
  clear hs hm BS BM
  go_region_held3 (fun w' => (∀ j, w'.cell? ⟨bs, j, none⟩ = (#[.int .i64 s1, .int .i64 s2, .bool s3, .int .i64 s4, .int .i64 s5, .int .i64 s6, .int .i64 s7, .bool s8, v] : Array Value)[j]?) ∧ (∀ j, w'.cell? ⟨bm, j, none⟩ = (#[.int .i64 m1, .int .i64 m2, .int .i64 m3, .int .i64 m4, .int .i64 m5, .int .i64 m6, .int .i64 m7, .bool m8, .int .i64 m9, .slice am nm cm] : Array Value)[j]?))
    (first | (with_reducible exact ⟨qs, qm⟩) | (exact HBC.out _ (by first | (with_reducible exact (Ext.refl W).drew) | (with_reducible exact E2))) | (refine ⟨fun j => ?_, fun j => ?_⟩ <;> (repeat rw [World.cell?_setCell_other _ _ _ _ (by first | (simp; done) | (simp; omega))]) <;> first | (with_reducible exact (HBC.out _ E2).1 j) | (with_reducible exact (HBC.out _ E2).2 j)) | fail)
    (first
      | (go_at_call 53; (with_reducible refine (HR.out _).mono ?_); rintro e w1 ⟨rfl, rfl⟩)
      | (go_at_call 54; (with_reducible refine (HC.out _ X0.drew).mono ?_); rintro e w2 ⟨a2, c2, he, x2, r2⟩; rw [HNN.out] at he r2; subst he; have E2 : Ext W w2 := (Ext.refl W).drew.trans x2; have R2 := Lib.hid r2; have BR2 := Lib.hid (BR.out.ext E2); have q2 := BR2.out.cell; have f2 := BR2.out.frozen; clear r2)
      | fail)
  all_goals
    change Exit.then _ _ _ _ (put w2 w.heap.size 0 [.int .i64 s1, .int .i64 s2, .bool true, .int .i64 m6, .int .i64 m7, .int .i64 m2, .int .i64 r7, .bool m8, .slice a2 nm c2])
    have C3 := put_all (vs := [.int .i64 s1, .int .i64 s2, .bool true, .int .i64 m6, .int .i64 m7, .int .i64 m2, .int .i64 r7, .bool m8, .slice a2 nm c2]) BR2.out rfl
    have X3 := put_ext (Nat.le_refl w.heap.size) [.int .i64 s1, .int .i64 s2, .bool true, .int .i64 m6, .int .i64 m7, .int .i64 m2, .int .i64 r7, .bool m8, .slice a2 nm c2] 0 w2 (X0.drew.trans x2)
    have R3 := (R2.out.agree (agree_put (V := Old W.drew) (B := w.heap.size) BR.out.lt [.int .i64 s1, .int .i64 s2, .bool true, .int .i64 m6, .int .i64 m7, .int .i64 m2, .int .i64 r7, .bool m8, .slice a2 nm c2] 0 w2)).weak (by omega) (V' := Old w) (fun g _ hg => X0.lt hg)
    generalize put w2 w.heap.size 0 _ = w3 at *
    have c3 := C3.cell
    have HC3 := Lib.hid C3
    clear C3 q2 f2 x2 qs qm
    go_wp2_with fail
    refine bodyPost_ret (v := .tuple #[.agg #[.int .i64 s1, .int .i64 s2, .bool true, .int .i64 m6, .int .i64 m7, .int .i64 m2, .int .i64 r7, .bool m8, .slice a2 nm c2], .int .i64 r]) (by simp [results, Try.results52, go_sem, c3]) rfl (HF.out _ _ _ X3 R3)
end Go.Proofs.Ytopmhaebjpmbfaa
