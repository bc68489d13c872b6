/- The references of layer 11 that only look: between, Same, Truth; the statements' own To, All, Large. -/
import Derived.Test.YtjaofbfppnmdjaaMsgA
import Derived.Test.YtjaofbfppnmdjaaRow2
import Derived.Test.YtjaofbfppnmdjaaReg
import Derived.Deep.DeepCutAuto
namespace Go.Proofs.Ytjaofbfppnmdjaa
open Go.RowKit
attribute [local go_sem ↓] Go.wp_at_zero Go.wp_at_succ

def btw (n lo hi : Int) : Bool := decide (lo ≤ n) && decide (n ≤ hi)
theorem between_any (n lo hi : Int) (w : World) : Calls Try.prog 51 #[.int .i64 n, .int .i64 lo, .int .i64 hi] w fun e w' => e = .returned (.bool (btw n lo hi)) ∧ w = w' := by
  obtain ⟨b, hb⟩ : ∃ b, btw n lo hi = b := ⟨_, rfl⟩
  rw [hb]
  unfold btw at hb
  cases h1 : decide (lo ≤ n)
  · rw [h1] at hb
    subst hb
    go_enter Try.func51, Try.ntmps51
    go_wp2
    go_ret
    exact ⟨rfl, rfl⟩
  · rw [h1, Bool.true_and] at hb
    subst hb
    go_enter Try.func51, Try.ntmps51
    go_wp2
    go_ret
    exact ⟨rfl, rfl⟩
set_option maxRecDepth 100000 in
theorem to11_any (v : Val) (w : World) : Calls Try.prog 26 #[valA v] w fun e w' => e = .returned (valA v) ∧ Ext w w' := by
  obtain ⟨k, n, s, a, b, c⟩ := v
  go_enter Try.func26, Try.ntmps26
  go_wp2
  exact bodyPost_ret (v := .agg #[.int .i64 k, .int .i64 n, .string s, .int .i64 a, .int .i64 b, .int .i64 c]) (by simp [results, Try.results26, go_sem]) rfl ⟨rfl, ((Ext.refl _).alloc _).alloc _⟩
theorem info_rval : (Try.prog.info? 54).map (fun i => (i.zero, i.size, i.bytes)) = some (some (.agg #[.int .i64 0, .int .i64 0, .string ⟨#[]⟩, .int .i64 0, .int .i64 0, .int .i64 0]), 6, 56) := by kernel_rfl
theorem flat_snoc (l : List Val) (k : Nat) (x : Val) (h : l[k]? = some x) : (l.take (k + 1)).flatMap valE = (l.take k).flatMap valE ++ valE x := by
  rw [List.take_add_one, h]; simp
set_option maxRecDepth 100000 in
set_option maxHeartbeats 4000000 in
theorem all11_any {V : Nat → Prop} (l : List Val) (v : Value) (w : World) (h : RF V 6 valE w v l) (hl : l.length ≤ 1000000) : Calls Try.prog 19 #[v] w (RetV w l) := by
  obtain ⟨i0, hi0, hz0, hz1, hz2⟩ := info_parts info_rval
  obtain ⟨a, c, rfl, hc1, hc2⟩ := h.form
  have HH := Lib.hid h
  obtain ⟨n, hn⟩ : ∃ n, l.length = n := ⟨_, rfl⟩
  have HN := Lib.hid hn
  have HF : Hid (∀ w' A c', w'.ownsRow w.heap.size 54 6 (.slice A n c') n (l.flatMap valE) → Ext w w' → RetV w l (.returned (.slice A n c')) w') := fun w' A c' ho he => ⟨A, c', by rw [hn], he, RF.of_own valE_len (by rw [hn]; exact ho) (fun _ h => h)⟩
  rw [hn] at hc1 hl ⊢
  clear h hc2 hn
  go_enter Try.func19, Try.ntmps19
  go_wp2
  go_loopw [3, 4] (fun o i wr => ∃ (k : Nat), k ≤ n ∧ i = .int .i64 k ∧ wr.ownsRow w.heap.size 54 6 o k ((l.take k).flatMap valE) ∧ Ext w wr) (fun _ i _ => n - (intOf i).toNat)
  case atStart => exact ⟨0, by omega, rfl, World.ownsRow_nil _ _ _ _, Ext.refl _⟩
  case round =>
    obtain ⟨k, hk, rfl, hown, hx⟩ := hrel
    by_cases hlt : k < n
    · obtain ⟨xv, hxv⟩ : ∃ x, l[k]? = some x := ⟨_, List.getElem?_eq_getElem (by rw [HN.out]; exact hlt)⟩
      obtain ⟨b, off, c', hv, g0, g1, g2, g3, g4, g5⟩ := val_get (HH.out.ext hx) hxv
      rw [HN.out] at hv
      simp only [Value.slice.injEq] at hv
      obtain ⟨rfl, -, rfl⟩ := hv
      have hki : (k : Int) < n := by omega
      have HT := Lib.hid (fun w1 => to11_any xv w1)
      have HS := Lib.hid (flat_snoc l k xv hxv)
      have HX := Lib.hid hx
      have HO := Lib.hid hown
      clear hxv hown hx
      obtain ⟨vk, vn, vs, va, vb, vc⟩ := xv
      simp only at *
      generalize (l.take k).flatMap valE = xs at *
      go_wp2_with fail
      refine (HT.out _).mono ?_
      rintro e w1 ⟨rfl, x1⟩
      go_wp2_with (at_builtin; refine wpList_append_src _ rfl (.tmp 11) (.tmp 17) _ rfl w.heap.size 54 i0 _ 6 56 Try.underlying30 hi0 hz0 hz1 hz2 rfl (by omega) u3 k xs rfl ((own_ext HO.out x1).alloc _) _ 1 1 [.int .i64 vk, .int .i64 vn, .string vs, .int .i64 va, .int .i64 vb, .int .i64 vc] rfl (Src.litB _ #[.int .i64 vk, .int .i64 vn, .string vs, .int .i64 va, .int .i64 vb, .int .i64 vc] _ 6 _ (by simp) rfl (by simp [Value.oneCell'])) (by unfold maxLen; omega) (by omega) (by simp; exact Nat.le_succ_of_le (HX.out.trans x1).size) ?_; intro A6 c6 w6 hown6 hg6 hat6)
      have hx6 : Ext w w6 := ((HX.out.trans x1).alloc _).grown hg6 (fun g hg => (HO.out.lt g hg).1)
      have HO6 := Lib.hid hown6
      clear hown6 hg6 hat6
      go_wp2_with fail
      go_roundw
      case rel => exact ⟨k + 1, by omega, by go_num, by rw [HS.out]; exact HO6.out, hx6⟩
      case measure => simp [intOf]; omega
    · have hki : ¬ (k : Int) < n := by omega
      obtain rfl : k = n := by omega
      rw [List.take_of_length_le (by rw [HN.out]; exact Nat.le_refl _)] at hown
      obtain ⟨a', c', rfl⟩ := owns_slice hown
      have HFF := Lib.hid (HF.out wr a' c' hown hx)
      clear hown hx
      go_wp2_with fail
      go_ret
      exact HFF.out
/-- Values that the statements speak of. -/
def largeB (l : List Val) : Bool := decide (60 < l.length) || l.any fun x => decide (200 < x.s.size)
set_option maxRecDepth 100000 in
set_option maxHeartbeats 4000000 in
theorem large11_any {V : Nat → Prop} (l : List Val) (v : Value) (w : World) (h : RF V 6 valE w v l) : Calls Try.prog 16 #[v] w fun e w' => e = .returned (.bool (largeB l)) ∧ w = w' := by
  obtain ⟨a, c, rfl, hc1, hc2⟩ := h.form
  have HH := Lib.hid h
  obtain ⟨n, hn⟩ : ∃ n, l.length = n := ⟨_, rfl⟩
  have HN := Lib.hid hn
  obtain ⟨r, hr⟩ : ∃ r, largeB l = r := ⟨_, rfl⟩
  rw [hr]
  unfold largeB at hr
  rw [hn] at hc1 hr ⊢
  by_cases hbig : 60 < n
  · have hbi : (60 : Int) < n := by omega
    rw [decide_eq_true hbig, Bool.true_or] at hr
    subst hr
    clear h hn
    go_enter Try.func16, Try.ntmps16
    go_wp2
    go_ret
    exact ⟨rfl, rfl⟩
  · have hbi : ¬ (60 : Int) < n := by omega
    rw [decide_eq_false hbig, Bool.false_or] at hr
    have HR := Lib.hid hr
    have hbd : decide ((60 : Int) < n) = false := by simpa using hbi
    clear h hn hr
    go_enter Try.func16, Try.ntmps16
    go_wp2
    go_loop [3] (fun i => ∃ (k : Nat), k ≤ n ∧ i = .int .i64 k ∧ ∀ (j : Nat) x, j < k → l[j]? = some x → ¬ 200 < x.s.size) (fun i => n - (intOf i).toNat)
    case atStart => exact ⟨0, by omega, rfl, fun j x h => by omega⟩
    case round =>
      obtain ⟨k, hk, rfl, hall⟩ := hrel
      have HALL := Lib.hid hall
      clear hall
      by_cases hlt : k < n
      · obtain ⟨xv, hxv⟩ : ∃ x, l[k]? = some x := ⟨_, List.getElem?_eq_getElem (by rw [HN.out]; exact hlt)⟩
        obtain ⟨b, off, c', hv, g0, g1, g2, g3, g4, g5⟩ := val_get HH.out hxv
        rw [HN.out] at hv
        simp only [Value.slice.injEq] at hv
        obtain ⟨rfl, -, rfl⟩ := hv
        have hki : (k : Int) < n := by omega
        have HXV := Lib.hid hxv
        clear hxv g0 g1 g3 g4 g5
        by_cases hs : 200 < xv.s.size
        · have hsi : (200 : Int) < xv.s.size := by omega
          obtain rfl : r = true := by rw [← HR.out, List.any_eq_true]; exact ⟨xv, List.mem_of_getElem? HXV.out, by simpa using hs⟩
          generalize xv.s = ss at *
          go_wp2
          go_ret
          exact ⟨rfl, rfl⟩
        · have hsi : ¬ (200 : Int) < xv.s.size := by omega
          have HS := Lib.hid hs
          have HXV2 := HXV
          go_wp2
          go_round
          case rel => exact ⟨k + 1, by omega, by go_num, fun j x hj hx => by
            rcases Nat.lt_or_ge j k with h | h
            · exact HALL.out j x h hx
            · obtain rfl : j = k := by omega
              have e := HXV2.out
              rw [hx] at e
              injection e with e
              rw [e]; exact HS.out⟩
          case measure => simp [intOf]; omega
      · have hki : ¬ (k : Int) < n := by omega
        obtain rfl : r = false := by
          rw [← HR.out, List.any_eq_false]
          intro x hx
          obtain ⟨j, hj, rfl⟩ := List.getElem_of_mem hx
          have := HALL.out j _ (by have := HN.out; omega) (List.getElem?_eq_getElem hj)
          simpa using this
        go_wp2
        go_ret
        exact ⟨rfl, rfl⟩
theorem equal_rstamp (a b c a' b' c' : Int) (d : Nat) (w : World) : (Op.equalIn (d + 1 + 1) 52 (.agg #[.int .i64 a, .int .i64 b, .int .i64 c]) (.agg #[.int .i64 a', .int .i64 b', .int .i64 c'])).run Try.prog w = .ok (decide (a = a' ∧ b = b' ∧ c = c')) w := by
  have hS : Try.prog.underlying 52 = some (.struct (Try.prog.fieldsOf 52)) := by kernel_rfl
  have hp : Try.prog.stoodInHeld 52 = false := by kernel_rfl
  rw [run_equalIn_agg w (d + 1) 52 _ _ hS hp]
  clear hS hp
  simp only [Program.fieldsOf, Try.underlying52]
  go_simp
  by_cases h1 : a = a' <;> by_cases h2 : b = b' <;> by_cases h3 : c = c' <;> simp [h1, h2, h3]
theorem equal_rval (x y : Val) (d : Nat) (w : World) : (Op.equalIn (d + 1 + 1 + 1) 54 (valA x) (valA y)).run Try.prog w = .ok (decide (x = y)) w := by
  have hS : Try.prog.underlying 54 = some (.struct (Try.prog.fieldsOf 54)) := by kernel_rfl
  have hp : Try.prog.stoodInHeld 54 = false := by kernel_rfl
  rw [run_equalIn_agg w (d + 1 + 1) 54 _ _ hS hp]
  clear hS hp
  obtain ⟨a, b, c, e, f, g⟩ := x
  obtain ⟨a', b', c', e', f', g'⟩ := y
  have hst := equal_rstamp e f g e' f' g' d w
  simp only [Program.fieldsOf, Try.underlying54]
  go_simp
  have hc : (c = c') ↔ c.toList = c'.toList := bytes_eq
  by_cases h1 : a = a' <;> by_cases h2 : b = b' <;> by_cases h3 : c.toList = c'.toList <;> by_cases h4 : e = e' <;> by_cases h5 : f = f' <;> by_cases h6 : g = g' <;> simp [h1, h2, hc, h3, h4, h5, h6]
theorem neq_rval (x y : Val) (w : World) : (binOp .neq 54 (valA x) (valA y)).run Try.prog w = .ok (.bool (!decide (x = y))) w := by
  rw [run_neq_struct, show (10000 : Nat) = 9997 + 1 + 1 + 1 from rfl, equal_rval]
  rfl
theorem eql_rval (x y : Val) (w : World) : (binOp .eql 54 (valA x) (valA y)).run Try.prog w = .ok (.bool (decide (x = y))) w := by
  rw [run_eql_struct, show (10000 : Nat) = 9997 + 1 + 1 + 1 from rfl, equal_rval]
  rfl
theorem neq_rstamp (a b c a' b' c' : Int) (w : World) : (binOp .neq 52 (.agg #[.int .i64 a, .int .i64 b, .int .i64 c]) (.agg #[.int .i64 a', .int .i64 b', .int .i64 c'])).run Try.prog w = .ok (.bool (!decide (a = a' ∧ b = b' ∧ c = c'))) w := by
  rw [run_neq_struct, show (10000 : Nat) = 9998 + 1 + 1 from rfl, equal_rstamp]
  rfl
theorem truthR_any (b : Bool) (w : World) : Calls Try.prog 30 #[.bool b] w fun e w' => e = .returned (valA ⟨1, if b then 1 else 0, ⟨#[]⟩, 0, 0, 0⟩) ∧ Ext w w' := by
  cases b
  · go_enter Try.func30, Try.ntmps30
    go_wp2
    exact bodyPost_ret (v := .agg #[.int .i64 1, .int .i64 0, .string ⟨#[]⟩, .int .i64 0, .int .i64 0, .int .i64 0]) (by simp [results, Try.results30, go_sem]) rfl ⟨rfl, (Ext.refl _).alloc _⟩
  · go_enter Try.func30, Try.ntmps30
    go_wp2
    exact bodyPost_ret (v := .agg #[.int .i64 1, .int .i64 1, .string ⟨#[]⟩, .int .i64 0, .int .i64 0, .int .i64 0]) (by simp [results, Try.results30, go_sem]) rfl ⟨rfl, (Ext.refl _).alloc _⟩
end Go.Proofs.Ytjaofbfppnmdjaa
