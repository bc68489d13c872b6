/- Contracts of the leaves of layer 16: take, the two closures of Accept, IndexFunc, Clone. -/
import Derived.Test.YtdnoejdhphpieaaChecked
import Derived.Test.YtdnoejdhphpieaaTwP
import Derived.Lib.SliceRun
import Derived.RegionTactic
import Derived.BigRegion
namespace Go.Proofs.Ytdnoejdhphpieaa
open Go.RowKit
attribute [local go_sem ↓] Go.wp_at_zero Go.wp_at_succ

theorem info_src : (Try.prog.info? 36).map (fun i => (i.zero, i.size, i.bytes)) = some (some (.agg #[.int .i64 0, .int .i64 0, .int .u64 0]), 3, 24) := by kernel_rfl

theorem word_not {a : Int} {b : Nat} (h : a % 65536 = b) : (0 : Int) ≤ a % 65536 := by omega
set_option maxRecDepth 100000 in
set_option maxHeartbeats 1000000 in
theorem take_any (x : Src3) (q : Int) (w : World) (hx : WfX x) (hq : 0 ≤ q) (hq2 : q ≤ 65535) :
    Calls Try.prog 24 #[.agg #[.int .i64 x.1, .int .i64 x.2.1, .int .u64 ((x.2.2 : Nat) : Int)], .int .i64 q] w fun e w' => e = .returned (.tuple #[.agg (srcE (takeS x q).1).toArray, .bool (takeS x q).2]) ∧ Ext w w' := by
  obtain ⟨o, t, s⟩ := x
  obtain ⟨ht, ht2, hs⟩ := hx
  simp only at *
  have e1 := and16 (q - t) (by omega) (by omega)
  have e2 := and16 (t - q) (by omega) (by omega)
  obtain ⟨T, hT⟩ : ∃ T, takeS (o, t, s) q = T := ⟨_, rfl⟩
  rw [hT]
  unfold takeS at hT
  simp only at hT
  obtain ⟨d, hd⟩ : ∃ d : Nat, (q - t) % 65536 = d := ⟨((q - t) % 65536).toNat, by omega⟩
  obtain ⟨k, hk⟩ : ∃ k : Nat, (t - q) % 65536 = k := ⟨((t - q) % 65536).toNat, by omega⟩
  rw [hd] at e1 hT
  rw [hk] at e2 hT
  rw [show (d : Int).toNat = d by omega, show (k : Int).toNat = k by omega] at hT
  have f1 : ∀ yk, Op.shift .shl .u64 (s : Int) yk (d : Int) = pure (.int .u64 ((shl64 s d : Nat) : Int)) := fun yk => shift_l yk s d
  have f2 : ∀ yk, Op.shift .shl .u64 1 yk (k : Int) = pure (.int .u64 ((shl64 1 k : Nat) : Int)) := fun yk => shift_l1 yk k
  have f3 : ∀ yk, Op.shift .shr .u64 (s : Int) yk (k : Int) = pure (.int .u64 ((shr64 s k : Nat) : Int)) := fun yk => shift_r yk s k hs
  have f7 : IntKind.u64.wrap (2 ^ k) = ((shl64 1 k : Nat) : Int) := by rw [show ((2 : Int) ^ k) = ((2 ^ k : Nat) : Int) by simp, wrap_u64]; unfold shl64; rw [Nat.shiftLeft_eq, Nat.one_mul]
  have f8 : (s : Int) / 2 ^ k = ((shr64 s k : Nat) : Int) := by unfold shr64; rw [Nat.shiftRight_eq_div_pow]; simp
  have f4 := or_one (shl64 s d) (shl64_lt s d)
  have f5 := or_nat s (shl64 1 k) hs (shl64_lt _ _)
  have f6 := and_one (shr64 s k) (shr64_lt s k hs)
  clear hs hd hk
  generalize hS1 : shl64 s d ||| 1 = S1 at *
  generalize hS2 : s ||| shl64 1 k = S2 at *
  generalize hS3 : shr64 s k % 2 = S3 at *
  generalize shl64 s d = s1 at *
  generalize shl64 1 k = s2 at *
  generalize shr64 s k = s3 at *
  clear hS1 hS2
  have hS3' : S3 = 0 ∨ S3 = 1 := by omega
  clear hS3
  by_cases hA : 1 ≤ (d : Int) ∧ (d : Int) < 32768
  · rw [if_pos hA] at hT
    have HT := Lib.hid hT
    clear hT
    obtain ⟨hA1, hA2⟩ := hA
    go_enter Try.func24, Try.ntmps24
    go_wp2
    refine bodyPost_ret (v := .tuple #[.agg #[.int .i64 o, .int .i64 q, .int .u64 (S1 : Int)], .bool true]) (by simp [results, Try.results24, go_sem]) rfl ⟨by rw [← HT.out]; rfl, ?_⟩
    repeat (first | exact Ext.refl _ | apply Ext.alloc | apply Ext.drew | refine Ext.setCell ?_ (by simp) _)
  · rw [if_neg hA] at hT
    have hB : decide (1 ≤ (d : Int)) = false ∨ (decide (1 ≤ (d : Int)) = true ∧ decide ((d : Int) < 32768) = false) := by
      by_cases h : 1 ≤ (d : Int)
      · exact .inr ⟨by simpa using h, by simp only [decide_eq_false_iff_not]; omega⟩
      · exact .inl (by simpa using h)
    clear hA
    by_cases hk : (k : Int) < 64
    · rcases hS3' with rfl | rfl
      · rw [if_pos ⟨hk, rfl⟩] at hT
        have HT := Lib.hid hT
        clear hT
        rcases hB with hB | ⟨hB, hB2⟩
        all_goals
          go_enter Try.func24, Try.ntmps24
          go_wp2
          go_region
          go_wp2
          refine bodyPost_ret (v := .tuple #[.agg #[.int .i64 o, .int .i64 t, .int .u64 (S2 : Int)], .bool true]) (by simp [results, Try.results24, go_sem]) rfl ⟨by rw [← HT.out]; rfl, ?_⟩
          repeat (first | exact Ext.refl _ | apply Ext.alloc | apply Ext.drew | refine Ext.setCell ?_ (by simp) _)
      · rw [if_neg (by simp)] at hT
        have HT := Lib.hid hT
        clear hT
        rcases hB with hB | ⟨hB, hB2⟩
        all_goals
          go_enter Try.func24, Try.ntmps24
          go_wp2
          refine bodyPost_ret (v := .tuple #[.agg #[.int .i64 o, .int .i64 t, .int .u64 (s : Int)], .bool false]) (by simp [results, Try.results24, go_sem]) rfl ⟨by rw [← HT.out]; rfl, ?_⟩
          repeat (first | exact Ext.refl _ | apply Ext.alloc | apply Ext.drew | refine Ext.setCell ?_ (by simp) _)
    · rw [if_neg (fun h => hk h.1)] at hT
      have HT := Lib.hid hT
      clear hT
      rcases hB with hB | ⟨hB, hB2⟩
      all_goals
        go_enter Try.func24, Try.ntmps24
        go_wp2
        refine bodyPost_ret (v := .tuple #[.agg #[.int .i64 o, .int .i64 t, .int .u64 (s : Int)], .bool false]) (by simp [results, Try.results24, go_sem]) rfl ⟨by rw [← HT.out]; rfl, ?_⟩
        repeat (first | exact Ext.refl _ | apply Ext.alloc | apply Ext.drew | refine Ext.setCell ?_ (by simp) _)

theorem src_get {V : Nat → Prop} {w : World} {v : Value} {l : List Src3} (h : RF V 3 srcE w v l) {i : Nat} {x : Src3} (hx : l[i]? = some x) : ∃ b off c, v = .slice (some ⟨b, off, none⟩) l.length c ∧
    w.cell? ⟨b, off + i * 3, none⟩ = some (.int .i64 x.1) ∧ w.cell? ⟨b, off + i * 3 + 1, none⟩ = some (.int .i64 x.2.1) ∧ w.cell? ⟨b, off + i * 3 + 2, none⟩ = some (.int .u64 ((x.2.2 : Nat) : Int)) := by
  obtain ⟨b, off, c, hv, _, _, hc⟩ := h.get hx
  exact ⟨b, off, c, hv, hc 0 _ rfl, hc 1 _ rfl, hc 2 _ rfl⟩

/-! ### The closures -/
theorem accept1_any (x : Src3) (s : Int) (p : Addr) (w : World) (h : w.cell? p = some (.int .i64 s)) : Calls Try.prog 23 #[.agg #[.int .i64 x.1, .int .i64 x.2.1, .int .u64 ((x.2.2 : Nat) : Int)], .pointer (some p)] w fun e w' => e = .returned (.bool (decide (x.1 = s))) ∧ Ext w w' := by
  obtain ⟨o, t, u⟩ := x
  simp only
  have hp := World.block_lt_of_cell? w p h
  have h2 := (((Ext.refl w).alloc (.cells #[.int .i64 o, .int .i64 t, .int .u64 (u : Int)] 36)).cell h)
  go_enter Try.func23, Try.ntmps23
  go_wp2
  go_ret
  exact ⟨rfl, (Ext.refl _).alloc _⟩
theorem accept2_any (x : Src3) (s : Int) (p : Addr) (w : World) (h : w.cell? p = some (.int .i64 s)) : Calls Try.prog 25 #[.agg #[.int .i64 x.1, .int .i64 x.2.1, .int .u64 ((x.2.2 : Nat) : Int)], .pointer (some p)] w fun e w' => e = .returned (.bool (decide (s < x.1))) ∧ Ext w w' := by
  obtain ⟨o, t, u⟩ := x
  simp only
  have hp := World.block_lt_of_cell? w p h
  have h2 := (((Ext.refl w).alloc (.cells #[.int .i64 o, .int .i64 t, .int .u64 (u : Int)] 36)).cell h)
  go_enter Try.func25, Try.ntmps25
  go_wp2
  go_ret
  exact ⟨rfl, (Ext.refl _).alloc _⟩

/-! ### IndexFunc -/
def idxI {α : Type} (p : α → Bool) (l : List α) : Int := match l.findIdx? p with | some i => (i : Int) | none => -1
theorem idxI_found {α : Type} (p : α → Bool) (l : List α) (k : Nat) (x : α) (hk : l[k]? = some x) (h1 : p x = true) (h2 : ∀ i y, l[i]? = some y → i < k → p y = false) : idxI p l = k := by
  obtain ⟨hi, rfl⟩ := List.getElem?_eq_some_iff.1 hk
  have : l.findIdx? p = some k := List.findIdx?_eq_some_iff_getElem.2 ⟨hi, h1, fun j hj => by rw [h2 j _ (List.getElem?_eq_getElem (by omega)) hj]; simp⟩
  unfold idxI
  rw [this]
theorem idxI_none {α : Type} (p : α → Bool) (l : List α) (h2 : ∀ (i : Nat) y, l[i]? = some y → p y = false) : idxI p l = -1 := by
  have : l.findIdx? p = none := by
    rw [List.findIdx?_eq_none_iff]
    intro x hx
    obtain ⟨i, hi, rfl⟩ := List.getElem_of_mem hx
    exact h2 i _ (List.getElem?_eq_getElem hi)
  unfold idxI
  rw [this]
set_option maxHeartbeats 1000000 in
theorem idx_accept1 (l : List Src3) (s : Int) (p : Addr) (v : Value) (w : World) (h : RF Any 3 srcE w v l) (hs : w.cell? p = some (.int .i64 s)) (hll : l.length ≤ 1000000000) :
    Calls Try.prog 22 #[v, .func (.func 23) #[] #[.pointer (some p)]] w fun e w' => e = .returned (.int .i64 (idxI (fun x => decide (x.1 = s)) l)) ∧ Ext w w' := by
  obtain ⟨a, c, rfl, hc1, hc2⟩ := h.form
  have HH := Lib.hid h
  have HS := Lib.hid hs
  obtain ⟨P, hP⟩ : ∃ P : Src3 → Bool, P = fun x => decide (x.1 = s) := ⟨_, rfl⟩
  rw [← hP]
  have HF := Lib.hid (idxI_found P l)
  have HN := Lib.hid (idxI_none P l)
  clear h hs hc2
  have HC : Hid (∀ (x : Src3) w1, w1.cell? p = some (.int .i64 s) → Calls Try.prog 23 #[.agg #[.int .i64 x.1, .int .i64 x.2.1, .int .u64 ((x.2.2 : Nat) : Int)], .pointer (some p)] w1 fun e w' => e = .returned (.bool (P x)) ∧ Ext w1 w') := by
    rw [hP]
    exact fun x w1 h1 => accept1_any x s p w1 h1
  clear hP
  generalize idxI P l = r at *
  generalize hn : l.length = n at *
  have HNN := Lib.hid hn
  clear hn
  go_enter Try.func22, Try.ntmps22
  go_wp2
  go_loopw [8] (fun i wr => ∃ (k : Nat), k ≤ n ∧ i = .int .i64 k ∧ (∀ i y, l[i]? = some y → i < k → P y = false) ∧ Ext w wr) (fun i _ => n - (intOf i).toNat)
  case atStart => exact ⟨0, Nat.zero_le _, rfl, fun i _ _ h => by omega, Ext.refl _⟩
  case round =>
    obtain ⟨k, hk1, rfl, hall, hx⟩ := hrel
    have HALL := Lib.hid hall
    clear hall
    by_cases hlt : k < n
    · obtain ⟨x, hxk⟩ : ∃ x, l[k]? = some x := ⟨_, List.getElem?_eq_getElem (by rw [HNN.out]; exact hlt)⟩
      obtain ⟨b, off, c', hv, g0, g1, g2⟩ := src_get (HH.out.ext hx) hxk
      rw [HNN.out] at hv
      simp only [Value.slice.injEq] at hv
      obtain ⟨rfl, -, rfl⟩ := hv
      have HK := Lib.hid (HC.out x wr (hx.cell HS.out))
      obtain ⟨q, hq⟩ : ∃ q, P x = q := ⟨_, rfl⟩
      have HQ := Lib.hid hq
      rw [hq] at HK
      have HXK := Lib.hid hxk
      clear hq hxk
      obtain ⟨o, t, u⟩ := x
      simp only at *
      have hki : (k : Int) < n := by omega
      cases q
      · go_wp2_with (go_at_call 23; refine HK.out.mono ?_; rintro e w1 ⟨rfl, hx1⟩)
        go_roundw
        case rel => exact ⟨k + 1, by omega, by go_num, fun i y h1 h2 => by
          rcases Nat.lt_or_ge i k with h | h
          · exact HALL.out i y h1 h
          · have : i = k := by omega
            subst this
            have e := HXK.out
            rw [h1] at e
            injection e with e
            rw [e]
            exact HQ.out, hx.trans hx1⟩
        case measure => simp [intOf]; omega
      · go_wp2_with (go_at_call 23; refine HK.out.mono ?_; rintro e w1 ⟨rfl, hx1⟩)
        go_ret
        exact ⟨ret_int (HF.out k _ HXK.out HQ.out HALL.out).symm, hx.trans hx1⟩
    · go_wp2
      go_ret
      refine ⟨ret_int (HN.out fun i y hi => HALL.out i y hi (by have := get_lt hi; rw [HNN.out] at this; omega)).symm, hx⟩

set_option maxHeartbeats 1000000 in
theorem idx_accept2 (l : List Src3) (s : Int) (p : Addr) (v : Value) (w : World) (h : RF Any 3 srcE w v l) (hs : w.cell? p = some (.int .i64 s)) (hll : l.length ≤ 1000000000) :
    Calls Try.prog 22 #[v, .func (.func 25) #[] #[.pointer (some p)]] w fun e w' => e = .returned (.int .i64 (idxI (fun x => decide (s < x.1)) l)) ∧ Ext w w' := by
  obtain ⟨a, c, rfl, hc1, hc2⟩ := h.form
  have HH := Lib.hid h
  have HS := Lib.hid hs
  obtain ⟨P, hP⟩ : ∃ P : Src3 → Bool, P = fun x => decide (s < x.1) := ⟨_, rfl⟩
  rw [← hP]
  have HF := Lib.hid (idxI_found P l)
  have HN := Lib.hid (idxI_none P l)
  clear h hs hc2
  have HC : Hid (∀ (x : Src3) w1, w1.cell? p = some (.int .i64 s) → Calls Try.prog 25 #[.agg #[.int .i64 x.1, .int .i64 x.2.1, .int .u64 ((x.2.2 : Nat) : Int)], .pointer (some p)] w1 fun e w' => e = .returned (.bool (P x)) ∧ Ext w1 w') := by
    rw [hP]
    exact fun x w1 h1 => accept2_any x s p w1 h1
  clear hP
  generalize idxI P l = r at *
  generalize hn : l.length = n at *
  have HNN := Lib.hid hn
  clear hn
  go_enter Try.func22, Try.ntmps22
  go_wp2
  go_loopw [8] (fun i wr => ∃ (k : Nat), k ≤ n ∧ i = .int .i64 k ∧ (∀ i y, l[i]? = some y → i < k → P y = false) ∧ Ext w wr) (fun i _ => n - (intOf i).toNat)
  case atStart => exact ⟨0, Nat.zero_le _, rfl, fun i _ _ h => by omega, Ext.refl _⟩
  case round =>
    obtain ⟨k, hk1, rfl, hall, hx⟩ := hrel
    have HALL := Lib.hid hall
    clear hall
    by_cases hlt : k < n
    · obtain ⟨x, hxk⟩ : ∃ x, l[k]? = some x := ⟨_, List.getElem?_eq_getElem (by rw [HNN.out]; exact hlt)⟩
      obtain ⟨b, off, c', hv, g0, g1, g2⟩ := src_get (HH.out.ext hx) hxk
      rw [HNN.out] at hv
      simp only [Value.slice.injEq] at hv
      obtain ⟨rfl, -, rfl⟩ := hv
      have HK := Lib.hid (HC.out x wr (hx.cell HS.out))
      obtain ⟨q, hq⟩ : ∃ q, P x = q := ⟨_, rfl⟩
      have HQ := Lib.hid hq
      rw [hq] at HK
      have HXK := Lib.hid hxk
      clear hq hxk
      obtain ⟨o, t, u⟩ := x
      simp only at *
      have hki : (k : Int) < n := by omega
      cases q
      · go_wp2_with (go_at_call 25; refine HK.out.mono ?_; rintro e w1 ⟨rfl, hx1⟩)
        go_roundw
        case rel => exact ⟨k + 1, by omega, by go_num, fun i y h1 h2 => by
          rcases Nat.lt_or_ge i k with h | h
          · exact HALL.out i y h1 h
          · have : i = k := by omega
            subst this
            have e := HXK.out
            rw [h1] at e
            injection e with e
            rw [e]
            exact HQ.out, hx.trans hx1⟩
        case measure => simp [intOf]; omega
      · go_wp2_with (go_at_call 25; refine HK.out.mono ?_; rintro e w1 ⟨rfl, hx1⟩)
        go_ret
        exact ⟨ret_int (HF.out k _ HXK.out HQ.out HALL.out).symm, hx.trans hx1⟩
    · go_wp2
      go_ret
      refine ⟨ret_int (HN.out fun i y hi => HALL.out i y hi (by have := get_lt hi; rw [HNN.out] at this; omega)).symm, hx⟩

/-! ### Clone -/
@[local go_sem] theorem eql_nil_src (w : World) (a : Option Addr) (n c : Nat) : (binOp .eql 26 (.slice a n c) (.slice none 0 0)).run Try.prog w = .ok (.bool a.isNone) w := Lib.run_eql_slice_nil w _ _ a n c 0 0 Try.underlying26
/-- It returns a row of its own that holds l. -/
def RetOwn (e : TypeId) (w : World) (l : List Src3) (en : Ending) (w' : World) : Prop := ∃ a c, en = .returned (.slice a l.length c) ∧ Ext w w' ∧ w'.ownsRow w.heap.size e 3 (.slice a l.length c) l.length (l.flatMap srcE)
set_option maxHeartbeats 2000000 in
theorem cloneSrc_any {V : Nat → Prop} (l : List Src3) (v : Value) (w : World) (h : RF V 3 srcE w v l) (hl : l.length ≤ 1000000000) : Calls Try.prog 21 #[v] w (RetOwn 36 w l) := by
  obtain ⟨i0, hi0, hz0, hz1, hz2⟩ := info_parts info_src
  obtain ⟨a, c, rfl, hc1, hc2⟩ := h.form
  cases a with
  | none =>
    have hb : l = [] := by
      cases l with
      | nil => rfl
      | cons x r =>
        obtain ⟨b, off, c', hv, _⟩ := h.at_ (i := 0) (by simp)
        simp at hv
    subst hb
    clear hc1 hc2 hl
    go_enter Try.func21, Try.ntmps21
    go_wp2
    go_ret
    exact ⟨none, 0, rfl, Ext.refl _, World.ownsRow_nil _ _ _ _⟩
  | some a =>
    have HSRC := Lib.hid ((h.ext ((Ext.refl w).alloc (.cells #[] 36))).src (by omega) srcE_one).2
    have HL0 := Lib.hid (World.ownsRow_lit (base := w.heap.size) (e := 36) (size := 3) w #[] 0 (Nat.le_refl _) (by unfold maxLen; omega) rfl)
    have HO : Hid (∀ (w1 : World) (A1 : Option Addr) (c1 : Nat), w1.ownsRow w.heap.size 36 3 (.slice A1 l.length c1) l.length (l.flatMap srcE) → Ext w w1 → RetOwn 36 w l (.returned (.slice A1 l.length c1)) w1) := fun w1 A1 c1 ho he => ⟨A1, c1, rfl, he, ho⟩
    generalize l.flatMap srcE = ms at *
    generalize l.length = n at *
    clear h hc1 hc2
    go_enter Try.func21, Try.ntmps21
    go_wp2_with (at_builtin; refine wpList_append_src _ rfl (.tmp 5) (.tmp 6) _ rfl w.heap.size 36 i0 _ 3 24 Try.underlying26 hi0 hz0 hz1 hz2 rfl (by omega) _ 0 [] rfl HL0.out _ n c _ rfl HSRC.out (by unfold maxLen; omega) (by omega) (by simp) ?_; intro A1 c1 w1 hown1 hg1 hat1; have hE1 : Ext w w1 := ((Ext.refl w).alloc _).grown hg1 (fun g hg => (HL0.out.lt g hg).1); simp only [Nat.zero_add, List.nil_append] at hown1 hat1)
    go_ret
    exact HO.out w1 A1 c1 hown1 hE1
end Go.Proofs.Ytdnoejdhphpieaa
