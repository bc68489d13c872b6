/- Data of the reference: layer 11. -/
import Derived.Test.YtjaofbfppnmdjaaDatC
import Derived.Test.YtjaofbfppnmdjaaDatR
namespace Go.Proofs.Ytjaofbfppnmdjaa
open Go.RowKit
attribute [local go_sem ↓] Go.wp_at_zero Go.wp_at_succ

/-- It returns a tag and new bytes. -/
def RetTB (w : World) (t : Int) (bs : List Int) (e : Ending) (w' : World) : Prop :=
  ∃ a c, e = .returned (.tuple #[.int .i64 t, .slice a bs.length c]) ∧ Ext w w' ∧ ∀ V : Nat → Prop, (∀ k, V k → k < w.heap.size) → RB V w' (.slice a bs.length c) bs
theorem RetTB.of {w W w' : World} {t : Int} {bs : List Int} {a : Option Addr} {c : Nat} (h0 : Ext w W) (x : Ext W w') (r : ∀ V : Nat → Prop, (∀ k, V k → k < W.heap.size) → RB V w' (.slice a bs.length c) bs) : RetTB w t bs (.returned (.tuple #[.int .i64 t, .slice a bs.length c])) w' :=
  ⟨a, c, rfl, h0.trans x, fun V hV => r V (fun k hk => h0.lt (hV k hk))⟩
set_option maxRecDepth 100000 in
set_option maxHeartbeats 8000000 in
theorem dataR_123 (v : Val) (w : World) (hck : chk v = 0) (hk : v.kind = 1 ∨ v.kind = 2 ∨ v.kind = 3) : Calls Try.prog 49 #[valA v] w (RetTB w (tagV v) (datV v)) := by
  have hsz := chk_size hck
  obtain ⟨k, n, s, a, b, c⟩ := v
  simp only at hk hsz
  rcases hk with rfl | rfl | rfl
  · have HB := Lib.hid (fun w1 => bigR_any n 1 w1 (by omega))
    have HT : Hid (tagV ⟨1, n, s, a, b, c⟩ = 131 ∧ datV ⟨1, n, s, a, b, c⟩ = numB n 1) := ⟨rfl, rfl⟩
    rw [HT.out.1, HT.out.2]
    have hl := numB_len n 1
    generalize numB n 1 = D at *
    have HL := Lib.hid hl
    clear hl hck hsz HT
    go_enter Try.func49, Try.ntmps49
    go_wp2_with fail
    refine (HB.out _).mono ?_
    rintro e w1 ⟨a1, c1, rfl, x1, r1⟩
    have HF := Lib.hid (RetTB.of (t := 131) ((Ext.refl w).alloc (.cells #[.int .i64 1, .int .i64 n, .string s, .int .i64 a, .int .i64 b, .int .i64 c] 54)) x1 r1)
    rw [HL.out] at HF ⊢
    clear r1
    go_wp2_with fail
    go_ret2
    exact HF.out
  · have HB := Lib.hid (fun w1 => integerR_any n w1)
    have HT : Hid (tagV ⟨2, n, s, a, b, c⟩ = 133 ∧ datV ⟨2, n, s, a, b, c⟩ = numB n (intLen n)) := ⟨rfl, rfl⟩
    rw [HT.out.1, HT.out.2]
    generalize numB n (intLen n) = D at *
    clear hck hsz HT
    go_enter Try.func49, Try.ntmps49
    go_wp2_with fail
    refine (HB.out _).mono ?_
    rintro e w1 ⟨a1, c1, rfl, x1, r1⟩
    have HF := Lib.hid (RetTB.of (t := 133) ((Ext.refl w).alloc (.cells #[.int .i64 2, .int .i64 n, .string s, .int .i64 a, .int .i64 b, .int .i64 c] 54)) x1 r1)
    clear r1
    generalize D.length = dl at *
    go_wp2_with fail
    go_ret2
    exact HF.out
  · have HB := Lib.hid (fun w1 => bitsR_any s w1 (hsz.1 rfl))
    have HT : Hid (tagV ⟨3, n, s, a, b, c⟩ = 132 ∧ datV ⟨3, n, s, a, b, c⟩ = bitsB s) := ⟨rfl, rfl⟩
    rw [HT.out.1, HT.out.2]
    generalize bitsB s = D at *
    clear hck hsz HT
    go_enter Try.func49, Try.ntmps49
    go_wp2_with fail
    refine (HB.out _).mono ?_
    rintro e w1 ⟨a1, c1, rfl, x1, r1⟩
    have HF := Lib.hid (RetTB.of (t := 132) ((Ext.refl w).alloc (.cells #[.int .i64 3, .int .i64 n, .string s, .int .i64 a, .int .i64 b, .int .i64 c] 54)) x1 r1)
    clear r1
    generalize D.length = dl at *
    go_wp2_with fail
    go_ret2
    exact HF.out
set_option maxRecDepth 100000 in
set_option maxHeartbeats 8000000 in
theorem dataR_4 (v : Val) (w : World) (hck : chk v = 0) (hk : v.kind = 4) : Calls Try.prog 49 #[valA v] w (RetTB w (tagV v) (datV v)) := by
  have hsz := chk_size hck
  obtain ⟨k, n, s, a, b, c⟩ := v
  simp only at hk hsz
  subst hk
  have HT : Hid (tagV ⟨4, n, s, a, b, c⟩ = 138 ∧ datV ⟨4, n, s, a, b, c⟩ = strB s) := ⟨rfl, rfl⟩
  rw [HT.out.1, HT.out.2]
  have HRS := Lib.hid (fun w1 => RetB.of_str (w := w1) (s := s) (Nat.le_trans (hsz.2 rfl) (by omega)))
  have hcv := fun W => Lib.run_convert_string_bytes (P := Try.prog) W 9 25 5 s Try.underlying9 Try.underlying25 Try.underlying5
  clear hck hsz HT
  go_enter Try.func49, Try.ntmps49
  go_wp2_with fail
  have BV := Bk.new w #[.int .i64 4, .int .i64 n, .string s, .int .i64 a, .int .i64 b, .int .i64 c] 54 w.heap.size rfl
  have X0 : Ext w (w.alloc (.cells #[.int .i64 4, .int .i64 n, .string s, .int .i64 a, .int .i64 b, .int .i64 c] 54)) := (Ext.refl w).alloc _
  generalize w.alloc (.cells #[.int .i64 4, .int .i64 n, .string s, .int .i64 a, .int .i64 b, .int .i64 c] 54) = W at *
  have q2 : W.cell? ⟨w.heap.size, 2, none⟩ = some (.string s) := BV.cell 2
  clear BV
  go_region_with (fail)
  all_goals
    go_wp2_with fail
    go_ret2
    obtain ⟨a1, c1, he, x1, r1⟩ := HRS.out W.drew
    simp only [strB_len, Ending.returned.injEq, Value.slice.injEq] at he
    obtain ⟨rfl, -, rfl⟩ := he
    refine ⟨_, _, by rw [strB_len]; rfl, X0.drew.trans x1, fun V hV => ?_⟩
    exact r1 V (fun k hk => X0.drew.lt (hV k hk))
theorem own_gt {A B : Option Nat} {m k g : Nat} (hat : A = B ∨ A = some m) (hB : ∀ g, B = some g → k < g) (hm : k < m) (hg : A = some g) : k < g := by
  rcases hat with h | h
  · exact hB g (by rw [← h]; exact hg)
  · rw [hg] at h
    injection h with h
    omega
set_option maxRecDepth 100000 in
set_option maxHeartbeats 8000000 in
theorem dataR_5 (v : Val) (w : World) (hk : v.kind = 5) : Calls Try.prog 49 #[valA v] w (RetTB w (tagV v) (datV v)) := by
  obtain ⟨i0, hi0, hz0, hz1, hz2⟩ := info_parts info_byte
  obtain ⟨k, n, s, a, b, c⟩ := v
  simp only at hk
  subst hk
  have HT : Hid (tagV ⟨5, n, s, a, b, c⟩ = 145 ∧ datV ⟨5, n, s, a, b, c⟩ = numB a 4 ++ numB b 3 ++ numB c 1) := ⟨rfl, rfl⟩
  rw [HT.out.1, HT.out.2]
  have H4 : Hid (∀ w1, Calls Try.prog 72 #[.int .i64 a, .int .i64 4] w1 (RetO w1 (numB a 4))) := fun w1 => bigR_own a 4 w1 (by omega)
  have H3 : Hid (∀ w1, Calls Try.prog 72 #[.int .i64 b, .int .i64 3] w1 (RetO w1 (numB b 3))) := fun w1 => bigR_own b 3 w1 (by omega)
  have H1 : Hid (∀ w1, Calls Try.prog 72 #[.int .i64 c, .int .i64 1] w1 (RetO w1 (numB c 1))) := fun w1 => bigR_own c 1 w1 (by omega)
  have Y3 := Lib.hid (numB_byt b 3)
  have Y1 := Lib.hid (numB_byt c 1)
  have L4 := Lib.hid (numB_len a 4)
  have L3 := Lib.hid (numB_len b 3)
  have L1 := Lib.hid (numB_len c 1)
  have HBT := Lib.hid (Byt.append (Byt.append (numB_byt a 4) (numB_byt b 3)) (numB_byt c 1))
  have HLN : Hid ((numB a 4 ++ numB b 3 ++ numB c 1).length = 8) := by show (numB a 4 ++ numB b 3 ++ numB c 1).length = 8; simp [numB_len]
  have HMP : Hid ((numB a 4 ++ numB b 3 ++ numB c 1).map (Value.int .u8) = ((numB a 4).map (Value.int .u8) ++ (numB b 3).map (Value.int .u8)) ++ (numB c 1).map (Value.int .u8)) := by show List.map _ _ = _; rw [List.map_append, List.map_append]
  generalize numB a 4 ++ numB b 3 ++ numB c 1 = D at *
  generalize numB a 4 = xs at *
  generalize numB b 3 = ys at *
  generalize numB c 1 = zs at *
  clear HT
  go_enter Try.func49, Try.ntmps49
  go_wp2_with fail
  have BV := Bk.new w #[.int .i64 5, .int .i64 n, .string s, .int .i64 a, .int .i64 b, .int .i64 c] 54 w.heap.size rfl
  have X0 : Ext w (w.alloc (.cells #[.int .i64 5, .int .i64 n, .string s, .int .i64 a, .int .i64 b, .int .i64 c] 54)) := (Ext.refl w).alloc _
  have hWs : (w.alloc (.cells #[.int .i64 5, .int .i64 n, .string s, .int .i64 a, .int .i64 b, .int .i64 c] 54)).heap.size = w.heap.size + 1 := by simp
  generalize w.alloc (.cells #[.int .i64 5, .int .i64 n, .string s, .int .i64 a, .int .i64 b, .int .i64 c] 54) = W at *
  have q0 := BV.cell
  have HBV := Lib.hid BV
  have HWS := Lib.hid hWs
  clear BV hWs
  go_region_held3 (fun w' => ∀ j, w'.cell? ⟨w.heap.size, j, none⟩ = (#[.int .i64 5, .int .i64 n, .string s, .int .i64 a, .int .i64 b, .int .i64 c] : Array Value)[j]?)
    (first | (with_reducible exact q0) | (with_reducible exact q1) | (with_reducible exact q2) | (with_reducible exact q3) | (with_reducible exact q4) | (with_reducible exact q5) | (with_reducible exact HBV.out.drew.cell) | fail)
    (first
      | (go_at_call_of 72 (4 : Int); (with_reducible refine (H4.out _).mono ?_); rintro e w1 ⟨a1, c1, he, x1, o1⟩; rw [L4.out] at he o1; subst he; have E1 : Ext W w1 := (Ext.refl W).drew.trans x1; have B1 := Lib.hid (HBV.out.ext E1); have q1 := B1.out.cell; have O1 := Lib.hid (own_base o1 (base' := w.heap.size) (by have := E1; have := HWS.out; simp; omega)); have LB : Hid (∀ g, (Value.slice a1 4 c1).ownBlock = some g → w.heap.size < g) := fun g hg => by have h5 := (o1.lt g hg).1; have := HWS.out; simp at h5; omega)
      | (go_at_call_of 72 (3 : Int); (with_reducible refine (H3.out _).mono ?_); rintro e w2 ⟨a2, c2, he, x2, o2⟩; rw [L3.out] at he o2; subst he; have E2 : Ext W w2 := E1.trans x2; have B2 := Lib.hid (B1.out.ext x2); have q2 := B2.out.cell; have HS2 := Lib.hid (fun w' (he : Ext w2 w') => Src.bytes ((RB.of_own (V := Any) (bs := ys) (by rw [L3.out]; exact o2) Y3.out (fun _ h => h.elim)).ext he)); have O2 := Lib.hid (fun w' (he : Ext w2 w') => own_ext (own_ext O1.out x2) he); have V1 : Hid (∀ g, (Value.slice a1 4 c1).ownBlock = some g → g < w2.heap.size) := fun g hg => x2.lt ((O1.out.lt g hg).2))
      | (go_at_call_of 72 (1 : Int); (with_reducible refine (H1.out _).mono ?_); rintro e w4 ⟨a4, c4, he, x4, o4⟩; rw [L1.out] at he o4; subst he; (first | (have E4 : Ext W w4 := E3.trans x4; have B4 := Lib.hid (B3.out.ext x4); have O4 := Lib.hid (own_ext O3.out x4)) | (have E4 : Ext W w4 := E2.trans x4; have B4 := Lib.hid (B2.out.ext x4))); have q4 := B4.out.cell; have R4 := Lib.hid (fun (V : Nat → Prop) (hV : ∀ k, V k → k < _) => RB.of_own (V := V) (bs := zs) (by rw [L1.out]; exact o4) Y1.out hV))
      | (refine step_append_src _ (by rfl) (.tmp 29) (.tmp 33) _ (by rfl) w.heap.size 5 i0 _ 1 1 Try.underlying25 hi0 hz0 hz1 hz2 (by rfl) (by omega) _ 4 _ (by rfl) (O2.out _ (by repeat first | (with_reducible exact Ext.refl _) | (with_reducible exact x2) | (with_reducible exact x4) | (with_reducible exact x2.trans x4) | (with_reducible apply Ext.drew) | (with_reducible apply Ext.alloc))) _ 3 _ _ (by rfl) (HS2.out _ (by repeat first | (with_reducible exact Ext.refl _) | (with_reducible exact x2) | (with_reducible exact x4) | (with_reducible exact x2.trans x4) | (with_reducible apply Ext.drew) | (with_reducible apply Ext.alloc))) (by unfold maxLen; omega) (by omega) (Ext.size (Ext.trans X0 (by first | (with_reducible exact E4) | (with_reducible exact E2)))) ?_; intro A3 c3 w3 hown3 hg3 hat3; simp only [Nat.reduceAdd] at hown3 hat3; have E3 : Ext W w3 := E2.grown hg3 (fun g hg => by have := LB.out g hg; have := HWS.out; omega); have B3 := Lib.hid (B2.out.agree (V := fun k => (Value.slice a1 4 c1).ownBlock = some k) (Agree.of_grown hg3 (fun k hk => hk)) (fun h => by have := LB.out _ h; omega)); have LB3 : Hid (∀ g, (Value.slice A3 7 c3).ownBlock = some g → w.heap.size < g) := fun g hg => own_gt hat3 LB.out (by have := E2.size; have := HWS.out; omega) hg; have q3 := B3.out.cell; have O3 := Lib.hid hown3; clear hown3 hg3 hat3)
      | (refine step_append_src _ (by rfl) (.tmp 34) (.tmp 38) _ (by rfl) w.heap.size 5 i0 _ 1 1 Try.underlying25 hi0 hz0 hz1 hz2 (by rfl) (by omega) _ 7 (xs.map (Value.int .u8) ++ ys.map (Value.int .u8)) (by rfl) O4.out _ 1 _ (zs.map (Value.int .u8)) (by rfl) (Src.bytes (R4.out Any (fun _ h => h.elim))) (by unfold maxLen; omega) (by omega) (X0.trans E4).size ?_; intro A5 c5 w5 hown5 hg5 hat5; have E5 : Ext w w5 := Ext.grown (X0.trans E4) hg5 (fun g hg => (O3.out.lt g hg).1); have q5 := (B4.out.agree (V := fun k => (Value.slice A3 7 c3).ownBlock = some k) (Agree.of_grown hg5 (fun k hk => hk)) (fun h => by have := LB3.out _ h; omega)).cell; simp only [Nat.reduceAdd] at hown5; have O5 := Lib.hid hown5; clear hown5 hg5 hat5)
      | fail)
  all_goals
    have HF : Hid (RetTB w 145 D (.returned (.tuple #[.int .i64 145, .slice A5 8 c5])) w5) := ⟨A5, c5, by rw [HLN.out], E5, fun V hV => RB.of_own (base := w.heap.size) (e := 5) (by rw [HLN.out, HMP.out]; exact O5.out) HBT.out hV⟩
    go_wp2_with fail
    go_ret2
    exact HF.out
theorem dataR_any (v : Val) (w : World) (hck : chk v = 0) : Calls Try.prog 49 #[valA v] w (RetTB w (tagV v) (datV v)) := by
  have hk := chk_kind hck
  simp only [isKind, Bool.and_eq_true, decide_eq_true_eq] at hk
  by_cases h4 : v.kind = 4
  · exact dataR_4 v w hck h4
  · by_cases h5 : v.kind = 5
    · exact dataR_5 v w h5
    · exact dataR_123 v w hck (by omega)
end Go.Proofs.Ytjaofbfppnmdjaa
