/- The seven values in front: layer 12. -/
import Derived.Test.YtjaofbfppnmdjaaMsgP
import Derived.Test.YtjaofbfppnmdjaaMsgR
import Derived.Laws.ByValue
namespace Go.Proofs.Ytjaofbfppnmdjaa
open Go.RowKit
attribute [local go_sem ↓] Go.wp_at_zero Go.wp_at_succ

/-- Values in a block of their own. -/
theorem RF.many (w : World) (cs : Array Value) (t : TypeId) (l : List Val) (B : Nat) (hB : w.heap.size = B) (hc : cs.toList = l.flatMap valE) (hm : l.length ≤ 100) : RF (Old w) 6 valE (w.alloc (.cells cs t)) (.slice (some ⟨B, 0, none⟩) l.length l.length) l := by
  subst hB
  refine RF.of_own (base := w.heap.size) (e := t) valE_len ?_ (fun _ h => h)
  have hlen : (l.flatMap valE).length = l.length * 6 := by
    clear hc hm
    induction l with
    | nil => rfl
    | cons x l ih => simp only [List.flatMap_cons, List.length_append, ih, valE_len, List.length_cons]; omega
  refine ⟨hlen, .inr ⟨w.heap.size, l.length, cs, rfl, Nat.le_refl _, Go.heap_alloc_new w _, Nat.le_refl _, by unfold maxLen; omega, ?_, ?_⟩⟩
  · rw [← Array.length_toList, hc, hlen]
  · rw [hc, List.take_of_length_le (by rw [hlen]; exact Nat.le_refl _)]
set_option maxRecDepth 100000 in
theorem header1_any (n : Int) (w : World) : Calls Try.prog 80 #[.int .i64 n] w fun e w' => e = .returned (valA ⟨2, n, ⟨#[]⟩, 0, 0, 0⟩) ∧ Ext w w' := by
  go_enter Try.func80, Try.ntmps80
  go_wp2
  exact bodyPost_ret (v := .agg #[.int .i64 2, .int .i64 n, .string ⟨#[]⟩, .int .i64 0, .int .i64 0, .int .i64 0]) (by simp [results, Try.results80, go_sem]) rfl ⟨rfl, (Ext.refl _).alloc _⟩

set_option maxRecDepth 100000 in
set_option maxHeartbeats 8000000 in
theorem header_any (m : Msg) (u : Value) (w : World) : Calls Try.prog 58 #[msgA m u] w (RetV w (headM m)) := by
  obtain ⟨cm, hcm⟩ : ∃ cm, RetV w (headM m) = cm := ⟨_, rfl⟩
  rw [hcm]
  have HF : Hid (∀ w1 cs, Ext w w1 → cs.toList = (headM m).flatMap valE → cm (.returned (.slice (some ⟨w1.heap.size, 0, none⟩) 7 7)) (w1.alloc (.cells cs 43))) := hcm ▸ fun w1 cs he hc => ⟨_, _, rfl, he.alloc _, (RF.many w1 cs 43 (headM m) _ rfl hc (by simp [headM])).weak (by omega) (fun g _ hg => he.lt hg)⟩
  clear hcm
  obtain ⟨m1, m2, m3, m4, m5, m6, m7, m8, m9, vm⟩ := m
  have H1 := Lib.hid (fun w1 => header1_any m1 w1)
  have H2 := Lib.hid (fun w1 => header1_any m2 w1)
  have H3 := Lib.hid (fun w1 => header1_any m6 w1)
  have H4 := Lib.hid (fun w1 => header1_any m7 w1)
  have H5 := Lib.hid (fun w1 => truth_any m8 w1)
  have H6 := Lib.hid (fun w1 => header1_any m9 w1)
  simp only [headM, tru] at HF
  simp only [tru] at H5
  obtain ⟨tb, htb⟩ : ∃ tb : Int, (if m8 then 1 else 0) = tb := ⟨_, rfl⟩
  rw [htb] at HF H5
  clear htb
  try simp only at *
  go_enter Try.func58, Try.ntmps58
  go_upto_region 2 with fail
  have BV := Bk.new w #[.int .i64 m1, .int .i64 m2, .int .i64 m3, .int .i64 m4, .int .i64 m5, .int .i64 m6, .int .i64 m7, .bool m8, .int .i64 m9, u] 71 w.heap.size rfl
  have X0 : Ext w (w.alloc (.cells #[.int .i64 m1, .int .i64 m2, .int .i64 m3, .int .i64 m4, .int .i64 m5, .int .i64 m6, .int .i64 m7, .bool m8, .int .i64 m9, u] 71)) := (Ext.refl w).alloc _
  generalize w.alloc (.cells #[.int .i64 m1, .int .i64 m2, .int .i64 m3, .int .i64 m4, .int .i64 m5, .int .i64 m6, .int .i64 m7, .bool m8, .int .i64 m9, u] 71) = W at *
  have HBC : Hid (∀ w', Ext W w' → ∀ j, w'.cell? ⟨w.heap.size, j, none⟩ = (#[.int .i64 m1, .int .i64 m2, .int .i64 m3, .int .i64 m4, .int .i64 m5, .int .i64 m6, .int .i64 m7, .bool m8, .int .i64 m9, u] : Array Value)[j]?) := fun w' he => (BV.ext he).cell
  clear BV
  go_region_held3 (fun w' => ∀ j, w'.cell? ⟨w.heap.size, j, none⟩ = (#[.int .i64 m1, .int .i64 m2, .int .i64 m3, .int .i64 m4, .int .i64 m5, .int .i64 m6, .int .i64 m7, .bool m8, .int .i64 m9, u] : Array Value)[j]?)
    (first | (exact HBC.out _ (by first | (with_reducible exact (Ext.refl W).drew) | (with_reducible exact D1) | (with_reducible exact D2) | (with_reducible exact D3) | (with_reducible exact D4) | (with_reducible exact D5) | (with_reducible exact D6) | (with_reducible exact D6.alloc _) | fail)) | fail)
    (first
      | (go_at_call 80; (with_reducible refine (H1.out _).mono ?_); rintro e y1 ⟨rfl, g1⟩; have D1 : Ext W y1 := (Ext.refl W).drew.trans g1; clear g1)
      | (go_at_call 80; (with_reducible refine (H2.out _).mono ?_); rintro e y2 ⟨rfl, g2⟩; have D2 : Ext W y2 := D1.trans g2; clear g2)
      | (go_at_call 80; (with_reducible refine (H3.out _).mono ?_); rintro e y3 ⟨rfl, g3⟩; have D3 : Ext W y3 := D2.trans g3; clear g3)
      | (go_at_call 80; (with_reducible refine (H4.out _).mono ?_); rintro e y4 ⟨rfl, g4⟩; have D4 : Ext W y4 := D3.trans g4; clear g4)
      | (go_at_call 29; (with_reducible refine (H5.out _).mono ?_); rintro e y5 ⟨rfl, g5⟩; have D5 : Ext W y5 := D4.trans g5; clear g5)
      | (go_at_call 80; (with_reducible refine (H6.out _).mono ?_); rintro e y6 ⟨rfl, g6⟩; have D6 : Ext W y6 := D5.trans g6; clear g6)
      | fail)
  all_goals
    go_wp2_with fail
    exact HF.out _ _ (X0.trans D6) rfl

end Go.Proofs.Ytjaofbfppnmdjaa
