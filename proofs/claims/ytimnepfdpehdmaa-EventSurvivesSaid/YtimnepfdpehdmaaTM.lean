/- Bits of numbers as layer 16 uses them, and what its receiver does, in plain words: no program stands here. -/
import Derived.Test.YtimnepfdpehdmaaTA
import Derived.Laws.BitsLemmas
import Derived.Laws.Bits64b
import Derived.Laws.Shifts
import Derived.Test.YtimnepfdpehdmaaChecked
import Derived.Lib.SliceRun
import Derived.RegionTactic
import Derived.BigRegion
namespace Go.Proofs.Ytimnepfdpehdmaa
open Go.RowKit

theorem and16 (x : Int) (h1 : -9223372036854775808 ≤ x) (h2 : x ≤ 9223372036854775807) : bits .and .i64 x 65535 = x % 65536 := by
  have h : (BitVec.ofInt 64 x &&& BitVec.ofInt 64 65535).toNat = (x % 65536).toNat := by
    rw [BitVec.toNat_and, show (BitVec.ofInt 64 65535).toNat = 2 ^ 16 - 1 by decide +kernel, Nat.and_two_pow_sub_one_eq_mod, BitVec.toNat_ofInt]
    have : ((2 ^ 64 : Nat) : Int) = 18446744073709551616 := by decide +kernel
    rw [this, show (2 : Nat) ^ 16 = 65536 by decide +kernel]
    omega
  show IntKind.i64.wrap (((BitVec.ofInt 64 x &&& BitVec.ofInt 64 65535).toNat : Nat) : Int) = _
  rw [h, IntKind.wrap_i64]
  omega
/-- x << d and x >> d for numbers of 64 bits. -/
def shl64 (x d : Nat) : Nat := (x <<< d) % 2 ^ 64
def shr64 (x d : Nat) : Nat := x >>> d
theorem shl64_lt (x d : Nat) : shl64 x d < 18446744073709551616 := Nat.mod_lt _ (by decide)
theorem shr64_lt (x d : Nat) (h : x < 18446744073709551616) : shr64 x d < 18446744073709551616 := by
  unfold shr64
  rw [Nat.shiftRight_eq_div_pow]
  exact Nat.lt_of_le_of_lt (Nat.div_le_self _ _) h
theorem shl64_big (x d : Nat) (h : 64 ≤ d) : shl64 x d = 0 := by
  unfold shl64
  rw [Nat.shiftLeft_eq, show d = 64 + (d - 64) by omega, Nat.pow_add, ← Nat.mul_assoc, Nat.mul_right_comm, Nat.mul_mod_left]
theorem wrap_u64 (n : Nat) : IntKind.u64.wrap (n : Int) = ((n % 2 ^ 64 : Nat) : Int) := by
  rw [IntKind.wrap_u64]; omega
theorem shift_l (yk : IntKind) (x d : Nat) : Op.shift .shl .u64 (x : Int) yk (d : Int) = pure (.int .u64 ((shl64 x d : Nat) : Int)) := by
  rw [shift_shl_any .u64 yk x d (by omega)]
  congr 2
  rw [show (d : Int).toNat = d by omega, show IntKind.u64.bits = 64 from rfl]
  have e : (x : Int) * 2 ^ min d 64 = ((x * 2 ^ min d 64 : Nat) : Int) := by simp
  rw [e, wrap_u64]
  congr 1
  by_cases h : d ≤ 64
  · rw [Nat.min_eq_left h]; unfold shl64; rw [Nat.shiftLeft_eq]
  · rw [Nat.min_eq_right (by omega), shl64_big x d (by omega), Nat.mul_mod_left]
theorem shift_l1 (yk : IntKind) (d : Nat) : Op.shift .shl .u64 1 yk (d : Int) = pure (.int .u64 ((shl64 1 d : Nat) : Int)) := shift_l yk 1 d
theorem shift_r (yk : IntKind) (x d : Nat) (hx : x < 18446744073709551616) : Op.shift .shr .u64 (x : Int) yk (d : Int) = pure (.int .u64 ((shr64 x d : Nat) : Int)) := by
  rw [shift_shr_any .u64 yk x d (by omega)]
  congr 2
  rw [show (d : Int).toNat = d by omega, show IntKind.u64.bits = 64 from rfl]
  have e : (x : Int) / 2 ^ min d 64 = ((x / 2 ^ min d 64 : Nat) : Int) := by simp
  rw [e]
  congr 1
  unfold shr64
  rw [Nat.shiftRight_eq_div_pow]
  by_cases h : d ≤ 64
  · rw [Nat.min_eq_left h]
  · rw [Nat.min_eq_right (by omega), Nat.div_eq_of_lt (by simpa using hx), Nat.div_eq_of_lt]
    exact Nat.lt_of_lt_of_le (by simpa using hx : x < 2 ^ 64) (Nat.pow_le_pow_right (by decide) (by omega))
theorem or_one (a : Nat) (ha : a < 18446744073709551616) : bits .or .u64 (a : Int) 1 = ((a ||| 1 : Nat) : Int) := bits_or_u64_nat a 1 ha (by decide)
theorem or_nat (a b : Nat) (ha : a < 18446744073709551616) (hb : b < 18446744073709551616) : bits .or .u64 (a : Int) (b : Int) = ((a ||| b : Nat) : Int) := bits_or_u64_nat a b ha hb
theorem and_oneT (a : Nat) (ha : a < 18446744073709551616) : bits .and .u64 (a : Int) 1 = ((a % 2 : Nat) : Int) := by
  have := bits_and_u64_nat a 1 ha (by decide)
  rw [Nat.and_one_is_mod] at this
  exact this

/-! ### What a receiver does -/
/-- What a receiver remembers of a source: Of, Top, Seen. -/
abbrev Src3 : Type := Int × Int × Nat
def srcE (x : Src3) : List Value := [.int .i64 x.1, .int .i64 x.2.1, .int .u64 ((x.2.2 : Nat) : Int)]
theorem srcE_len (x : Src3) : (srcE x).length = 3 := rfl
theorem srcE_one (x : Src3) : ∀ u ∈ srcE x, u.oneCell' = true := by
  intro u hu
  simp only [srcE, List.mem_cons, List.not_mem_nil, or_false] at hu
  rcases hu with rfl | rfl | rfl <;> rfl
/-- A source's numbers are in range. -/
def WfX (x : Src3) : Prop := 0 ≤ x.2.1 ∧ x.2.1 ≤ 65535 ∧ x.2.2 < 18446744073709551616
def takeT (x : Src3) (q : Int) : Src3 × Bool :=
  if 1 ≤ (q - x.2.1) % 65536 ∧ (q - x.2.1) % 65536 < 32768 then ((x.1, q, shl64 x.2.2 ((q - x.2.1) % 65536).toNat ||| 1), true)
  else if (x.2.1 - q) % 65536 < 64 ∧ shr64 x.2.2 ((x.2.1 - q) % 65536).toNat % 2 = 0 then ((x.1, x.2.1, x.2.2 ||| shl64 1 ((x.2.1 - q) % 65536).toNat), true)
  else (x, false)
theorem takeS_of (x : Src3) (q : Int) : (takeT x q).1.1 = x.1 := by
  unfold takeT
  split
  · rfl
  split <;> rfl
theorem or_lt64 {a b : Nat} (ha : a < 18446744073709551616) (hb : b < 18446744073709551616) : a ||| b < 18446744073709551616 := Nat.or_lt_two_pow (n := 64) ha hb
theorem takeS_wf (x : Src3) (q : Int) (h : WfX x) (h0 : 0 ≤ q) (h1 : q ≤ 65535) : WfX (takeT x q).1 := by
  unfold takeT
  split
  · exact ⟨h0, h1, or_lt64 (shl64_lt _ _) (by decide)⟩
  split
  · exact ⟨h.1, h.2.1, or_lt64 h.2.2 (shl64_lt _ _)⟩
  · exact h
/-- What becomes of the sources, and whether the copy is the first of its pair. -/
def accT (l : List Src3) (s q : Int) : List Src3 × Bool :=
  if s < 0 ∨ 65535 < s ∨ q < 0 ∨ 65535 < q then (l, false)
  else match l.findIdx? (fun x => decide (x.1 = s)) with
    | some i => (l.set i (takeT (l.getD i (0, 0, 0)) q).1, (takeT (l.getD i (0, 0, 0)) q).2)
    | none => (l.take ((l.findIdx? (fun x => decide (s < x.1))).getD l.length) ++ (s, q, 1) :: l.drop ((l.findIdx? (fun x => decide (s < x.1))).getD l.length), true)
end Go.Proofs.Ytimnepfdpehdmaa

namespace Go.Proofs.Ytimnepfdpehdmaa
open Go.RowKit
attribute [local go_sem ↓] Go.wp_at_zero Go.wp_at_succ

theorem info_src : (Try.prog.info? 112).map (fun i => (i.zero, i.size, i.bytes)) = some (some (.agg #[.int .i64 0, .int .i64 0, .int .u64 0]), 3, 24) := by kernel_rfl

theorem word_not {a : Int} {b : Nat} (h : a % 65536 = b) : (0 : Int) ≤ a % 65536 := by omega
set_option maxRecDepth 100000 in
set_option maxHeartbeats 1000000 in
theorem takeT_any (x : Src3) (q : Int) (w : World) (hx : WfX x) (hq : 0 ≤ q) (hq2 : q ≤ 65535) :
    Calls Try.prog 42 #[.agg #[.int .i64 x.1, .int .i64 x.2.1, .int .u64 ((x.2.2 : Nat) : Int)], .int .i64 q] w fun e w' => e = .returned (.tuple #[.agg (srcE (takeT x q).1).toArray, .bool (takeT x q).2]) ∧ Ext w w' := by
  obtain ⟨o, t, s⟩ := x
  obtain ⟨ht, ht2, hs⟩ := hx
  simp only at *
  have e1 := and16 (q - t) (by omega) (by omega)
  have e2 := and16 (t - q) (by omega) (by omega)
  obtain ⟨T, hT⟩ : ∃ T, takeT (o, t, s) q = T := ⟨_, rfl⟩
  rw [hT]
  unfold takeT at hT
  simp only at hT
  obtain ⟨d, hd⟩ : ∃ d : Nat, (q - t) % 65536 = d := ⟨((q - t) % 65536).toNat, by omega⟩
  obtain ⟨k, hk⟩ : ∃ k : Nat, (t - q) % 65536 = k := ⟨((t - q) % 65536).toNat, by omega⟩
  rw [hd] at e1 hT
  rw [hk] at e2 hT
  rw [show (d : Int).toNat = d by omega, show (k : Int).toNat = k by omega] at hT
  have f1 : ∀ yk, Op.shift .shl .u64 (s : Int) yk (d : Int) = pure (.int .u64 ((shl64 s d : Nat) : Int)) := fun yk => shift_l yk s d
  have f2 : ∀ yk, Op.shift .shl .u64 1 yk (k : Int) = pure (.int .u64 ((shl64 1 k : Nat) : Int)) := fun yk => shift_l1 yk k
  have f3 : ∀ yk, Op.shift .shr .u64 (s : Int) yk (k : Int) = pure (.int .u64 ((shr64 s k : Nat) : Int)) := fun yk => shift_r yk s k hs
  have f7 : IntKind.u64.wrap (2 ^ k) = ((shl64 1 k : Nat) : Int) := by rw [show ((2 : Int) ^ k) = ((2 ^ k : Nat) : Int) by simp, wrap_u64]; unfold shl64; rw [Nat.shiftLeft_eq, Nat.one_mul]
  have f8 : (s : Int) / 2 ^ k = ((shr64 s k : Nat) : Int) := by unfold shr64; rw [Nat.shiftRight_eq_div_pow]; simp
  have f4 := or_one (shl64 s d) (shl64_lt s d)
  have f5 := or_nat s (shl64 1 k) hs (shl64_lt _ _)
  have f6 := and_oneT (shr64 s k) (shr64_lt s k hs)
  clear hs hd hk
  generalize hS1 : shl64 s d ||| 1 = S1 at *
  generalize hS2 : s ||| shl64 1 k = S2 at *
  generalize hS3 : shr64 s k % 2 = S3 at *
  generalize shl64 s d = s1 at *
  generalize shl64 1 k = s2 at *
  generalize shr64 s k = s3 at *
  clear hS1 hS2
  have hS3' : S3 = 0 ∨ S3 = 1 := by omega
  clear hS3
  by_cases hA : 1 ≤ (d : Int) ∧ (d : Int) < 32768
  · rw [if_pos hA] at hT
    have HT := Lib.hid hT
    clear hT
    obtain ⟨hA1, hA2⟩ := hA
    go_enter Try.func42, Try.ntmps42
    go_wp2
    refine bodyPost_ret (v := .tuple #[.agg #[.int .i64 o, .int .i64 q, .int .u64 (S1 : Int)], .bool true]) (by simp [results, Try.results42, go_sem]) rfl ⟨by rw [← HT.out]; rfl, ?_⟩
    repeat (first | exact Ext.refl _ | apply Ext.alloc | apply Ext.drew | refine Ext.setCell ?_ (by simp) _)
  · rw [if_neg hA] at hT
    have hB : decide (1 ≤ (d : Int)) = false ∨ (decide (1 ≤ (d : Int)) = true ∧ decide ((d : Int) < 32768) = false) := by
      by_cases h : 1 ≤ (d : Int)
      · exact .inr ⟨by simpa using h, by simp only [decide_eq_false_iff_not]; omega⟩
      · exact .inl (by simpa using h)
    clear hA
    by_cases hk : (k : Int) < 64
    · rcases hS3' with rfl | rfl
      · rw [if_pos ⟨hk, rfl⟩] at hT
        have HT := Lib.hid hT
        clear hT
        rcases hB with hB | ⟨hB, hB2⟩
        all_goals
          go_enter Try.func42, Try.ntmps42
          go_wp2
          go_region
          go_wp2
          refine bodyPost_ret (v := .tuple #[.agg #[.int .i64 o, .int .i64 t, .int .u64 (S2 : Int)], .bool true]) (by simp [results, Try.results42, go_sem]) rfl ⟨by rw [← HT.out]; rfl, ?_⟩
          repeat (first | exact Ext.refl _ | apply Ext.alloc | apply Ext.drew | refine Ext.setCell ?_ (by simp) _)
      · rw [if_neg (by simp)] at hT
        have HT := Lib.hid hT
        clear hT
        rcases hB with hB | ⟨hB, hB2⟩
        all_goals
          go_enter Try.func42, Try.ntmps42
          go_wp2
          refine bodyPost_ret (v := .tuple #[.agg #[.int .i64 o, .int .i64 t, .int .u64 (s : Int)], .bool false]) (by simp [results, Try.results42, go_sem]) rfl ⟨by rw [← HT.out]; rfl, ?_⟩
          repeat (first | exact Ext.refl _ | apply Ext.alloc | apply Ext.drew | refine Ext.setCell ?_ (by simp) _)
    · rw [if_neg (fun h => hk h.1)] at hT
      have HT := Lib.hid hT
      clear hT
      rcases hB with hB | ⟨hB, hB2⟩
      all_goals
        go_enter Try.func42, Try.ntmps42
        go_wp2
        refine bodyPost_ret (v := .tuple #[.agg #[.int .i64 o, .int .i64 t, .int .u64 (s : Int)], .bool false]) (by simp [results, Try.results42, go_sem]) rfl ⟨by rw [← HT.out]; rfl, ?_⟩
        repeat (first | exact Ext.refl _ | apply Ext.alloc | apply Ext.drew | refine Ext.setCell ?_ (by simp) _)

theorem src_get {V : Nat → Prop} {w : World} {v : Value} {l : List Src3} (h : RF V 3 srcE w v l) {i : Nat} {x : Src3} (hx : l[i]? = some x) : ∃ b off c, v = .slice (some ⟨b, off, none⟩) l.length c ∧
    w.cell? ⟨b, off + i * 3, none⟩ = some (.int .i64 x.1) ∧ w.cell? ⟨b, off + i * 3 + 1, none⟩ = some (.int .i64 x.2.1) ∧ w.cell? ⟨b, off + i * 3 + 2, none⟩ = some (.int .u64 ((x.2.2 : Nat) : Int)) := by
  obtain ⟨b, off, c, hv, _, _, hc⟩ := h.get hx
  exact ⟨b, off, c, hv, hc 0 _ rfl, hc 1 _ rfl, hc 2 _ rfl⟩

/-! ### The closures -/
theorem accept1_any (x : Src3) (s : Int) (p : Addr) (w : World) (h : w.cell? p = some (.int .i64 s)) : Calls Try.prog 41 #[.agg #[.int .i64 x.1, .int .i64 x.2.1, .int .u64 ((x.2.2 : Nat) : Int)], .pointer (some p)] w fun e w' => e = .returned (.bool (decide (x.1 = s))) ∧ Ext w w' := by
  obtain ⟨o, t, u⟩ := x
  simp only
  have hp := World.block_lt_of_cell? w p h
  have h2 := (((Ext.refl w).alloc (.cells #[.int .i64 o, .int .i64 t, .int .u64 (u : Int)] 112)).cell h)
  go_enter Try.func41, Try.ntmps41
  go_wp2
  go_ret
  exact ⟨rfl, (Ext.refl _).alloc _⟩
theorem accept2_any (x : Src3) (s : Int) (p : Addr) (w : World) (h : w.cell? p = some (.int .i64 s)) : Calls Try.prog 43 #[.agg #[.int .i64 x.1, .int .i64 x.2.1, .int .u64 ((x.2.2 : Nat) : Int)], .pointer (some p)] w fun e w' => e = .returned (.bool (decide (s < x.1))) ∧ Ext w w' := by
  obtain ⟨o, t, u⟩ := x
  simp only
  have hp := World.block_lt_of_cell? w p h
  have h2 := (((Ext.refl w).alloc (.cells #[.int .i64 o, .int .i64 t, .int .u64 (u : Int)] 112)).cell h)
  go_enter Try.func43, Try.ntmps43
  go_wp2
  go_ret
  exact ⟨rfl, (Ext.refl _).alloc _⟩

/-! ### IndexFunc -/
def idxI {α : Type} (p : α → Bool) (l : List α) : Int := match l.findIdx? p with | some i => (i : Int) | none => -1
theorem idxI_found {α : Type} (p : α → Bool) (l : List α) (k : Nat) (x : α) (hk : l[k]? = some x) (h1 : p x = true) (h2 : ∀ i y, l[i]? = some y → i < k → p y = false) : idxI p l = k := by
  obtain ⟨hi, rfl⟩ := List.getElem?_eq_some_iff.1 hk
  have : l.findIdx? p = some k := List.findIdx?_eq_some_iff_getElem.2 ⟨hi, h1, fun j hj => by rw [h2 j _ (List.getElem?_eq_getElem (by omega)) hj]; simp⟩
  unfold idxI
  rw [this]
theorem idxI_none {α : Type} (p : α → Bool) (l : List α) (h2 : ∀ (i : Nat) y, l[i]? = some y → p y = false) : idxI p l = -1 := by
  have : l.findIdx? p = none := by
    rw [List.findIdx?_eq_none_iff]
    intro x hx
    obtain ⟨i, hi, rfl⟩ := List.getElem_of_mem hx
    exact h2 i _ (List.getElem?_eq_getElem hi)
  unfold idxI
  rw [this]
set_option maxHeartbeats 1000000 in
theorem idx_accept1 (l : List Src3) (s : Int) (p : Addr) (v : Value) (w : World) (h : RF Any 3 srcE w v l) (hs : w.cell? p = some (.int .i64 s)) (hll : l.length ≤ 1000000000) :
    Calls Try.prog 40 #[v, .func (.func 41) #[] #[.pointer (some p)]] w fun e w' => e = .returned (.int .i64 (idxI (fun x => decide (x.1 = s)) l)) ∧ Ext w w' := by
  obtain ⟨a, c, rfl, hc1, hc2⟩ := h.form
  have HH := Lib.hid h
  have HS := Lib.hid hs
  obtain ⟨P, hP⟩ : ∃ P : Src3 → Bool, P = fun x => decide (x.1 = s) := ⟨_, rfl⟩
  rw [← hP]
  have HF := Lib.hid (idxI_found P l)
  have HN := Lib.hid (idxI_none P l)
  clear h hs hc2
  have HC : Hid (∀ (x : Src3) w1, w1.cell? p = some (.int .i64 s) → Calls Try.prog 41 #[.agg #[.int .i64 x.1, .int .i64 x.2.1, .int .u64 ((x.2.2 : Nat) : Int)], .pointer (some p)] w1 fun e w' => e = .returned (.bool (P x)) ∧ Ext w1 w') := by
    rw [hP]
    exact fun x w1 h1 => accept1_any x s p w1 h1
  clear hP
  generalize idxI P l = r at *
  generalize hn : l.length = n at *
  have HNN := Lib.hid hn
  clear hn
  go_enter Try.func40, Try.ntmps40
  go_wp2
  go_loopw [8] (fun i wr => ∃ (k : Nat), k ≤ n ∧ i = .int .i64 k ∧ (∀ i y, l[i]? = some y → i < k → P y = false) ∧ Ext w wr) (fun i _ => n - (intOf i).toNat)
  case atStart => exact ⟨0, Nat.zero_le _, rfl, fun i _ _ h => by omega, Ext.refl _⟩
  case round =>
    obtain ⟨k, hk1, rfl, hall, hx⟩ := hrel
    have HALL := Lib.hid hall
    clear hall
    by_cases hlt : k < n
    · obtain ⟨x, hxk⟩ : ∃ x, l[k]? = some x := ⟨_, List.getElem?_eq_getElem (by rw [HNN.out]; exact hlt)⟩
      obtain ⟨b, off, c', hv, g0, g1, g2⟩ := src_get (HH.out.ext hx) hxk
      rw [HNN.out] at hv
      simp only [Value.slice.injEq] at hv
      obtain ⟨rfl, -, rfl⟩ := hv
      have HK := Lib.hid (HC.out x wr (hx.cell HS.out))
      obtain ⟨q, hq⟩ : ∃ q, P x = q := ⟨_, rfl⟩
      have HQ := Lib.hid hq
      rw [hq] at HK
      have HXK := Lib.hid hxk
      clear hq hxk
      obtain ⟨o, t, u⟩ := x
      simp only at *
      have hki : (k : Int) < n := by omega
      cases q
      · go_wp2_with (go_at_call 41; refine HK.out.mono ?_; rintro e w1 ⟨rfl, hx1⟩)
        go_roundw
        case rel => exact ⟨k + 1, by omega, by go_num, fun i y h1 h2 => by
          rcases Nat.lt_or_ge i k with h | h
          · exact HALL.out i y h1 h
          · have : i = k := by omega
            subst this
            have e := HXK.out
            rw [h1] at e
            injection e with e
            rw [e]
            exact HQ.out, hx.trans hx1⟩
        case measure => simp [intOf]; omega
      · go_wp2_with (go_at_call 41; refine HK.out.mono ?_; rintro e w1 ⟨rfl, hx1⟩)
        go_ret
        exact ⟨ret_int (HF.out k _ HXK.out HQ.out HALL.out).symm, hx.trans hx1⟩
    · go_wp2
      go_ret
      refine ⟨ret_int (HN.out fun i y hi => HALL.out i y hi (by have := get_lt hi; rw [HNN.out] at this; omega)).symm, hx⟩

set_option maxHeartbeats 1000000 in
theorem idx_accept2 (l : List Src3) (s : Int) (p : Addr) (v : Value) (w : World) (h : RF Any 3 srcE w v l) (hs : w.cell? p = some (.int .i64 s)) (hll : l.length ≤ 1000000000) :
    Calls Try.prog 40 #[v, .func (.func 43) #[] #[.pointer (some p)]] w fun e w' => e = .returned (.int .i64 (idxI (fun x => decide (s < x.1)) l)) ∧ Ext w w' := by
  obtain ⟨a, c, rfl, hc1, hc2⟩ := h.form
  have HH := Lib.hid h
  have HS := Lib.hid hs
  obtain ⟨P, hP⟩ : ∃ P : Src3 → Bool, P = fun x => decide (s < x.1) := ⟨_, rfl⟩
  rw [← hP]
  have HF := Lib.hid (idxI_found P l)
  have HN := Lib.hid (idxI_none P l)
  clear h hs hc2
  have HC : Hid (∀ (x : Src3) w1, w1.cell? p = some (.int .i64 s) → Calls Try.prog 43 #[.agg #[.int .i64 x.1, .int .i64 x.2.1, .int .u64 ((x.2.2 : Nat) : Int)], .pointer (some p)] w1 fun e w' => e = .returned (.bool (P x)) ∧ Ext w1 w') := by
    rw [hP]
    exact fun x w1 h1 => accept2_any x s p w1 h1
  clear hP
  generalize idxI P l = r at *
  generalize hn : l.length = n at *
  have HNN := Lib.hid hn
  clear hn
  go_enter Try.func40, Try.ntmps40
  go_wp2
  go_loopw [8] (fun i wr => ∃ (k : Nat), k ≤ n ∧ i = .int .i64 k ∧ (∀ i y, l[i]? = some y → i < k → P y = false) ∧ Ext w wr) (fun i _ => n - (intOf i).toNat)
  case atStart => exact ⟨0, Nat.zero_le _, rfl, fun i _ _ h => by omega, Ext.refl _⟩
  case round =>
    obtain ⟨k, hk1, rfl, hall, hx⟩ := hrel
    have HALL := Lib.hid hall
    clear hall
    by_cases hlt : k < n
    · obtain ⟨x, hxk⟩ : ∃ x, l[k]? = some x := ⟨_, List.getElem?_eq_getElem (by rw [HNN.out]; exact hlt)⟩
      obtain ⟨b, off, c', hv, g0, g1, g2⟩ := src_get (HH.out.ext hx) hxk
      rw [HNN.out] at hv
      simp only [Value.slice.injEq] at hv
      obtain ⟨rfl, -, rfl⟩ := hv
      have HK := Lib.hid (HC.out x wr (hx.cell HS.out))
      obtain ⟨q, hq⟩ : ∃ q, P x = q := ⟨_, rfl⟩
      have HQ := Lib.hid hq
      rw [hq] at HK
      have HXK := Lib.hid hxk
      clear hq hxk
      obtain ⟨o, t, u⟩ := x
      simp only at *
      have hki : (k : Int) < n := by omega
      cases q
      · go_wp2_with (go_at_call 43; refine HK.out.mono ?_; rintro e w1 ⟨rfl, hx1⟩)
        go_roundw
        case rel => exact ⟨k + 1, by omega, by go_num, fun i y h1 h2 => by
          rcases Nat.lt_or_ge i k with h | h
          · exact HALL.out i y h1 h
          · have : i = k := by omega
            subst this
            have e := HXK.out
            rw [h1] at e
            injection e with e
            rw [e]
            exact HQ.out, hx.trans hx1⟩
        case measure => simp [intOf]; omega
      · go_wp2_with (go_at_call 43; refine HK.out.mono ?_; rintro e w1 ⟨rfl, hx1⟩)
        go_ret
        exact ⟨ret_int (HF.out k _ HXK.out HQ.out HALL.out).symm, hx.trans hx1⟩
    · go_wp2
      go_ret
      refine ⟨ret_int (HN.out fun i y hi => HALL.out i y hi (by have := get_lt hi; rw [HNN.out] at this; omega)).symm, hx⟩

/-! ### Clone -/
@[local go_sem] theorem eql_nil_src (w : World) (a : Option Addr) (n c : Nat) : (binOp .eql 36 (.slice a n c) (.slice none 0 0)).run Try.prog w = .ok (.bool a.isNone) w := Lib.run_eql_slice_nil w _ _ a n c 0 0 Try.underlying36
/-- It returns a row of its own that holds l. -/
def RetOwn (e : TypeId) (w : World) (l : List Src3) (en : Ending) (w' : World) : Prop := ∃ a c, en = .returned (.slice a l.length c) ∧ Ext w w' ∧ w'.ownsRow w.heap.size e 3 (.slice a l.length c) l.length (l.flatMap srcE)
set_option maxHeartbeats 2000000 in
theorem cloneSrc_any {V : Nat → Prop} (l : List Src3) (v : Value) (w : World) (h : RF V 3 srcE w v l) (hl : l.length ≤ 1000000000) : Calls Try.prog 39 #[v] w (RetOwn 112 w l) := by
  obtain ⟨i0, hi0, hz0, hz1, hz2⟩ := info_parts info_src
  obtain ⟨a, c, rfl, hc1, hc2⟩ := h.form
  cases a with
  | none =>
    have hb : l = [] := by
      cases l with
      | nil => rfl
      | cons x r =>
        obtain ⟨b, off, c', hv, _⟩ := h.at_ (i := 0) (by simp)
        simp at hv
    subst hb
    clear hc1 hc2 hl
    go_enter Try.func39, Try.ntmps39
    go_wp2
    go_ret
    exact ⟨none, 0, rfl, Ext.refl _, World.ownsRow_nil _ _ _ _⟩
  | some a =>
    have HSRC := Lib.hid ((h.ext ((Ext.refl w).alloc (.cells #[] 112))).src (by omega) srcE_one).2
    have HL0 := Lib.hid (World.ownsRow_lit (base := w.heap.size) (e := 112) (size := 3) w #[] 0 (Nat.le_refl _) (by unfold maxLen; omega) rfl)
    have HO : Hid (∀ (w1 : World) (A1 : Option Addr) (c1 : Nat), w1.ownsRow w.heap.size 112 3 (.slice A1 l.length c1) l.length (l.flatMap srcE) → Ext w w1 → RetOwn 112 w l (.returned (.slice A1 l.length c1)) w1) := fun w1 A1 c1 ho he => ⟨A1, c1, rfl, he, ho⟩
    generalize l.flatMap srcE = ms at *
    generalize l.length = n at *
    clear h hc1 hc2
    go_enter Try.func39, Try.ntmps39
    go_wp2_with (at_builtin; refine wpList_append_src _ rfl (.tmp 5) (.tmp 6) _ rfl w.heap.size 112 i0 _ 3 24 Try.underlying36 hi0 hz0 hz1 hz2 rfl (by omega) _ 0 [] rfl HL0.out _ n c _ rfl HSRC.out (by unfold maxLen; omega) (by omega) (by simp) ?_; intro A1 c1 w1 hown1 hg1 hat1; have hE1 : Ext w w1 := ((Ext.refl w).alloc _).grown hg1 (fun g hg => (HL0.out.lt g hg).1); simp only [Nat.zero_add, List.nil_append] at hown1 hat1)
    go_ret
    exact HO.out w1 A1 c1 hown1 hE1
end Go.Proofs.Ytimnepfdpehdmaa
