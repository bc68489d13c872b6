/- The messages of events: layer 14. -/
import Derived.Test.YtopmhaebjpmbfaaSubE
import Derived.Test.YtopmhaebjpmbfaaWithin14
import Derived.Test.YtopmhaebjpmbfaaPubG
namespace Go.Proofs.Ytopmhaebjpmbfaa
open Go.RowKit
attribute [local go_sem ↓] Go.wp_at_zero Go.wp_at_succ

structure Evt where
  state : Int
  seq : Int
  ttl : Int
  val : Bool
  test : Bool
  tick : Bool
def evtE (x : Evt) : List Value := [.int .i64 x.state, .int .i64 x.seq, .int .i64 x.ttl, .bool x.val, .bool x.test, .bool x.tick]
abbrev evtA (x : Evt) : Value := .agg #[.int .i64 x.state, .int .i64 x.seq, .int .i64 x.ttl, .bool x.val, .bool x.test, .bool x.tick]
/-- The message of an event. -/
def evM (x : Evt) : Msg := ⟨3, 1 + x.ttl % 4, 0, 0, 0, 1 + x.state % 6, x.seq % 5, x.test, 4, [tru x.val]⟩
theorem RF.lit {w w1 : World} (l : List Val) (cs : Array Value) (B n : Nat) (hB : w1.heap.size = B) (hn : l.length = n) (hl : n ≤ 1000000000) (hc : cs.toList = l.flatMap valE) (hx : Ext w w1) : RF (Old w) 6 valE (w1.alloc (.cells cs 47)) (.slice (some ⟨B, 0, none⟩) n n) l := by
  subst hB hn
  refine RF.of_own (base := w.heap.size) (e := 47) valE_len ?_ (fun _ h => h)
  rw [← hc]
  exact World.ownsRow_lit w1 cs l.length hx.size (by unfold maxLen; omega) (by rw [← Array.length_toList, hc, flat_len valE_len])
theorem evM_ok (x : Evt) : chkM (evM x) = 0 ∧ 1 ≤ (evM x).state ∧ (evM x).state ≤ 6 ∧ 0 ≤ (evM x).seq ∧ (evM x).seq ≤ 4 ∧ 1 ≤ (evM x).ttl ∧ (evM x).ttl ≤ 4 ∧ (evM x).vals.length = 1 := by
  unfold evM
  simp only
  refine ⟨?_, by omega, by omega, by omega, by omega, by omega, by omega, rfl⟩
  unfold chkM
  simp only
  rw [if_neg (by omega), if_neg (by omega), if_neg (by decide), if_neg (by simp)]
  cases x.val <;> decide +kernel
set_option maxRecDepth 100000 in
set_option maxHeartbeats 4000000 in
theorem evMsg_any (x : Evt) (w : World) : Calls Try.prog 35 #[evtA x] w (RetM w (evM x)) := by
  have HW1 := Lib.hid (fun w1 => within14_any x.state 6 w1 (by omega) (by omega))
  have HW2 := Lib.hid (fun w1 => within14_any x.seq 5 w1 (by omega) (by omega))
  have HW3 := Lib.hid (fun w1 => within14_any x.ttl 4 w1 (by omega) (by omega))
  have HT := Lib.hid (fun w1 => truth_any x.val w1)
  simp only [tru] at HT
  have HL := Lib.hid (fun wb w1 (hx : Ext wb w1) => RF.lit (w := wb) (w1 := w1) [tru x.val] #[.int .i64 1, .int .i64 (if x.val = true then 1 else 0), .string ⟨#[]⟩, .int .i64 0, .int .i64 0, .int .i64 0] w1.heap.size 1 rfl rfl (by omega) rfl hx)
  have HF : Hid (∀ w' a', Ext w w' → RF (Old w) 6 valE w' (.slice a' 1 1) [tru x.val] → RetM w (evM x) (.returned (.agg #[.int .i64 3, .int .i64 (1 + x.ttl % 4), .int .i64 0, .int .i64 0, .int .i64 0, .int .i64 (1 + x.state % 6), .int .i64 (x.seq % 5), .bool x.test, .int .i64 4, .slice a' 1 1])) w') := fun w' a' he hr => ⟨a', 1, rfl, he, hr⟩
  generalize RetM w (evM x) = R at *
  obtain ⟨e1, e2, e3, e4, e5, e6⟩ := x
  simp only at *
  have b1 : IntKind.i64.wrap (1 + e1 % 6) = 1 + e1 % 6 := IntWalk.i64_in _ (by omega)
  have b3 : IntKind.i64.wrap (1 + e3 % 4) = 1 + e3 % 4 := IntWalk.i64_in _ (by omega)
  generalize e1 % 6 = r1 at *
  generalize e2 % 5 = r2 at *
  generalize e3 % 4 = r3 at *
  generalize (if e4 = true then (1 : Int) else 0) = z at *
  generalize [tru e4] = L at *
  go_enter Try.func35, Try.ntmps35
  go_wp2_with fail
  have X0 : Ext w ((w.alloc (.cells #[.int .i64 e1, .int .i64 e2, .int .i64 e3, .bool e4, .bool e5, .bool e6] 70)).alloc (.cells #[.int .i64 0, .int .i64 0, .int .i64 0, .int .i64 0, .int .i64 0, .int .i64 0, .int .i64 0, .bool false, .int .i64 0, .slice none 0 0] 39)) := ((Ext.refl w).alloc _).alloc _
  have B0 := Lib.hid ((Bk.new w #[.int .i64 e1, .int .i64 e2, .int .i64 e3, .bool e4, .bool e5, .bool e6] 70 w.heap.size rfl).alloc (.cells #[.int .i64 0, .int .i64 0, .int .i64 0, .int .i64 0, .int .i64 0, .int .i64 0, .int .i64 0, .bool false, .int .i64 0, .slice none 0 0] 39))
  have B1 := Lib.hid (Bk.new (w.alloc (.cells #[.int .i64 e1, .int .i64 e2, .int .i64 e3, .bool e4, .bool e5, .bool e6] 70)) #[.int .i64 0, .int .i64 0, .int .i64 0, .int .i64 0, .int .i64 0, .int .i64 0, .int .i64 0, .bool false, .int .i64 0, .slice none 0 0] 39 (w.heap.size + 1) (by simp))
  generalize (w.alloc (.cells #[.int .i64 e1, .int .i64 e2, .int .i64 e3, .bool e4, .bool e5, .bool e6] 70)).alloc (.cells #[.int .i64 0, .int .i64 0, .int .i64 0, .int .i64 0, .int .i64 0, .int .i64 0, .int .i64 0, .bool false, .int .i64 0, .slice none 0 0] 39) = W at *
  have b0 := B0.out.cell
  have HBC := Lib.hid (fun w' (he : Ext W w') => (B0.out.ext he).cell)
  go_region_held3 (fun w' => ∀ j, w'.cell? ⟨w.heap.size, j, none⟩ = (#[.int .i64 e1, .int .i64 e2, .int .i64 e3, .bool e4, .bool e5, .bool e6] : Array Value)[j]?)
    (first | (with_reducible exact b0) | (exact HBC.out _ (by first | (with_reducible exact (Ext.refl W).drew) | (with_reducible exact E2) | (with_reducible exact E2.alloc _))) | (intro j; (repeat rw [World.cell?_setCell_other _ _ _ _ (by simp)]); exact HBC.out _ (E2.alloc _) j) | fail)
    (first
      | (go_at_call 39; (with_reducible refine (HW1.out _).mono ?_); rintro e wq ⟨rfl, rfl⟩)
      | (go_at_call 39; (with_reducible refine (HW2.out _).mono ?_); rintro e wq ⟨rfl, rfl⟩)
      | (go_at_call 39; (with_reducible refine (HW3.out _).mono ?_); rintro e wq ⟨rfl, rfl⟩)
      | (go_at_call 48; (with_reducible refine (HT.out _).mono ?_); rintro e w2 ⟨rfl, x2⟩; have E2 : Ext W w2 := (Ext.refl W).drew.trans x2; have HL2 := Lib.hid (HL.out W w2 E2); have B12 := Lib.hid ((B1.out.ext E2).alloc (.cells #[.int .i64 1, .int .i64 z, .string ⟨#[]⟩, .int .i64 0, .int .i64 0, .int .i64 0] 47)); have q2 := B12.out.cell; have f2 := B12.out.frozen; have X2 := Lib.hid ((X0.trans E2).alloc (.cells #[.int .i64 1, .int .i64 z, .string ⟨#[]⟩, .int .i64 0, .int .i64 0, .int .i64 0] 47)); clear x2)
      | fail)
  all_goals
    change Exit.then _ _ _ _ (put (w2.alloc (.cells #[.int .i64 1, .int .i64 z, .string ⟨#[]⟩, .int .i64 0, .int .i64 0, .int .i64 0] 47)) (w.heap.size + 1) 0 [.int .i64 3, .int .i64 (1 + r3), .int .i64 0, .int .i64 0, .int .i64 0, .int .i64 (1 + r1), .int .i64 r2, .bool e5, .int .i64 4, .slice (some ⟨w2.heap.size, 0, none⟩) 1 1])
    have C3 := put_all (vs := [.int .i64 3, .int .i64 (1 + r3), .int .i64 0, .int .i64 0, .int .i64 0, .int .i64 (1 + r1), .int .i64 r2, .bool e5, .int .i64 4, .slice (some ⟨w2.heap.size, 0, none⟩) 1 1]) B12.out rfl
    have X3 := put_ext (Nat.le_succ w.heap.size) [.int .i64 3, .int .i64 (1 + r3), .int .i64 0, .int .i64 0, .int .i64 0, .int .i64 (1 + r1), .int .i64 r2, .bool e5, .int .i64 4, .slice (some ⟨w2.heap.size, 0, none⟩) 1 1] 0 _ X2.out
    have R3 := (HL2.out.agree (agree_put (V := Old W) (B := w.heap.size + 1) B1.out.lt [.int .i64 3, .int .i64 (1 + r3), .int .i64 0, .int .i64 0, .int .i64 0, .int .i64 (1 + r1), .int .i64 r2, .bool e5, .int .i64 4, .slice (some ⟨w2.heap.size, 0, none⟩) 1 1] 0 _)).weak (by omega) (V' := Old w) (fun g _ hg => X0.lt hg)
    generalize put (w2.alloc (.cells #[.int .i64 1, .int .i64 z, .string ⟨#[]⟩, .int .i64 0, .int .i64 0, .int .i64 0] 47)) (w.heap.size + 1) 0 _ = w3 at *
    have c3 := C3.cell
    have HC3 := Lib.hid C3
    clear C3 q2 f2 b0
    go_wp2_with fail
    refine bodyPost_ret (v := .agg #[.int .i64 3, .int .i64 (1 + r3), .int .i64 0, .int .i64 0, .int .i64 0, .int .i64 (1 + r1), .int .i64 r2, .bool e5, .int .i64 4, .slice (some ⟨w2.heap.size, 0, none⟩) 1 1]) (by simp [results, Try.results35, go_sem, c3]) rfl (HF.out _ _ X3 R3)
end Go.Proofs.Ytopmhaebjpmbfaa
