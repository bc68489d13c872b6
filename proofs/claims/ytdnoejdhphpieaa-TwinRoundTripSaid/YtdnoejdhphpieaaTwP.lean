/- Bits of numbers as layer 16 uses them, and what its receiver does, in plain words: no program stands here. -/
import Derived.Test.YtdnoejdhphpieaaFlat
import Derived.Laws.BitsLemmas
import Derived.Laws.Bits64b
import Derived.Laws.Shifts
namespace Go.Proofs.Ytdnoejdhphpieaa
open Go.RowKit

theorem and16 (x : Int) (h1 : -9223372036854775808 ≤ x) (h2 : x ≤ 9223372036854775807) : bits .and .i64 x 65535 = x % 65536 := by
  have h : (BitVec.ofInt 64 x &&& BitVec.ofInt 64 65535).toNat = (x % 65536).toNat := by
    rw [BitVec.toNat_and, show (BitVec.ofInt 64 65535).toNat = 2 ^ 16 - 1 by decide +kernel, Nat.and_two_pow_sub_one_eq_mod, BitVec.toNat_ofInt]
    have : ((2 ^ 64 : Nat) : Int) = 18446744073709551616 := by decide +kernel
    rw [this, show (2 : Nat) ^ 16 = 65536 by decide +kernel]
    omega
  show IntKind.i64.wrap (((BitVec.ofInt 64 x &&& BitVec.ofInt 64 65535).toNat : Nat) : Int) = _
  rw [h, IntKind.wrap_i64]
  omega
/-- x << d and x >> d for numbers of 64 bits. -/
def shl64 (x d : Nat) : Nat := (x <<< d) % 2 ^ 64
def shr64 (x d : Nat) : Nat := x >>> d
theorem shl64_lt (x d : Nat) : shl64 x d < 18446744073709551616 := Nat.mod_lt _ (by decide)
theorem shr64_lt (x d : Nat) (h : x < 18446744073709551616) : shr64 x d < 18446744073709551616 := by
  unfold shr64
  rw [Nat.shiftRight_eq_div_pow]
  exact Nat.lt_of_le_of_lt (Nat.div_le_self _ _) h
theorem shl64_big (x d : Nat) (h : 64 ≤ d) : shl64 x d = 0 := by
  unfold shl64
  rw [Nat.shiftLeft_eq, show d = 64 + (d - 64) by omega, Nat.pow_add, ← Nat.mul_assoc, Nat.mul_right_comm, Nat.mul_mod_left]
theorem wrap_u64 (n : Nat) : IntKind.u64.wrap (n : Int) = ((n % 2 ^ 64 : Nat) : Int) := by
  rw [IntKind.wrap_u64]; omega
theorem shift_l (yk : IntKind) (x d : Nat) : Op.shift .shl .u64 (x : Int) yk (d : Int) = pure (.int .u64 ((shl64 x d : Nat) : Int)) := by
  rw [shift_shl_any .u64 yk x d (by omega)]
  congr 2
  rw [show (d : Int).toNat = d by omega, show IntKind.u64.bits = 64 from rfl]
  have e : (x : Int) * 2 ^ min d 64 = ((x * 2 ^ min d 64 : Nat) : Int) := by simp
  rw [e, wrap_u64]
  congr 1
  by_cases h : d ≤ 64
  · rw [Nat.min_eq_left h]; unfold shl64; rw [Nat.shiftLeft_eq]
  · rw [Nat.min_eq_right (by omega), shl64_big x d (by omega), Nat.mul_mod_left]
theorem shift_l1 (yk : IntKind) (d : Nat) : Op.shift .shl .u64 1 yk (d : Int) = pure (.int .u64 ((shl64 1 d : Nat) : Int)) := shift_l yk 1 d
theorem shift_r (yk : IntKind) (x d : Nat) (hx : x < 18446744073709551616) : Op.shift .shr .u64 (x : Int) yk (d : Int) = pure (.int .u64 ((shr64 x d : Nat) : Int)) := by
  rw [shift_shr_any .u64 yk x d (by omega)]
  congr 2
  rw [show (d : Int).toNat = d by omega, show IntKind.u64.bits = 64 from rfl]
  have e : (x : Int) / 2 ^ min d 64 = ((x / 2 ^ min d 64 : Nat) : Int) := by simp
  rw [e]
  congr 1
  unfold shr64
  rw [Nat.shiftRight_eq_div_pow]
  by_cases h : d ≤ 64
  · rw [Nat.min_eq_left h]
  · rw [Nat.min_eq_right (by omega), Nat.div_eq_of_lt (by simpa using hx), Nat.div_eq_of_lt]
    exact Nat.lt_of_lt_of_le (by simpa using hx : x < 2 ^ 64) (Nat.pow_le_pow_right (by decide) (by omega))
theorem or_one (a : Nat) (ha : a < 18446744073709551616) : bits .or .u64 (a : Int) 1 = ((a ||| 1 : Nat) : Int) := bits_or_u64_nat a 1 ha (by decide)
theorem or_nat (a b : Nat) (ha : a < 18446744073709551616) (hb : b < 18446744073709551616) : bits .or .u64 (a : Int) (b : Int) = ((a ||| b : Nat) : Int) := bits_or_u64_nat a b ha hb
theorem and_one (a : Nat) (ha : a < 18446744073709551616) : bits .and .u64 (a : Int) 1 = ((a % 2 : Nat) : Int) := by
  have := bits_and_u64_nat a 1 ha (by decide)
  rw [Nat.and_one_is_mod] at this
  exact this

/-! ### What a receiver does -/
/-- What a receiver remembers of a source: Of, Top, Seen. -/
abbrev Src3 : Type := Int × Int × Nat
def srcE (x : Src3) : List Value := [.int .i64 x.1, .int .i64 x.2.1, .int .u64 ((x.2.2 : Nat) : Int)]
theorem srcE_len (x : Src3) : (srcE x).length = 3 := rfl
theorem srcE_one (x : Src3) : ∀ u ∈ srcE x, u.oneCell' = true := by
  intro u hu
  simp only [srcE, List.mem_cons, List.not_mem_nil, or_false] at hu
  rcases hu with rfl | rfl | rfl <;> rfl
/-- A source's numbers are in range. -/
def WfX (x : Src3) : Prop := 0 ≤ x.2.1 ∧ x.2.1 ≤ 65535 ∧ x.2.2 < 18446744073709551616
def takeS (x : Src3) (q : Int) : Src3 × Bool :=
  if 1 ≤ (q - x.2.1) % 65536 ∧ (q - x.2.1) % 65536 < 32768 then ((x.1, q, shl64 x.2.2 ((q - x.2.1) % 65536).toNat ||| 1), true)
  else if (x.2.1 - q) % 65536 < 64 ∧ shr64 x.2.2 ((x.2.1 - q) % 65536).toNat % 2 = 0 then ((x.1, x.2.1, x.2.2 ||| shl64 1 ((x.2.1 - q) % 65536).toNat), true)
  else (x, false)
theorem takeS_of (x : Src3) (q : Int) : (takeS x q).1.1 = x.1 := by
  unfold takeS
  split
  · rfl
  split <;> rfl
theorem or_lt64 {a b : Nat} (ha : a < 18446744073709551616) (hb : b < 18446744073709551616) : a ||| b < 18446744073709551616 := Nat.or_lt_two_pow (n := 64) ha hb
theorem takeS_wf (x : Src3) (q : Int) (h : WfX x) (h0 : 0 ≤ q) (h1 : q ≤ 65535) : WfX (takeS x q).1 := by
  unfold takeS
  split
  · exact ⟨h0, h1, or_lt64 (shl64_lt _ _) (by decide)⟩
  split
  · exact ⟨h.1, h.2.1, or_lt64 h.2.2 (shl64_lt _ _)⟩
  · exact h
/-- What becomes of the sources, and whether the copy is the first of its pair. -/
def accS (l : List Src3) (s q : Int) : List Src3 × Bool :=
  if s < 0 ∨ 65535 < s ∨ q < 0 ∨ 65535 < q then (l, false)
  else match l.findIdx? (fun x => decide (x.1 = s)) with
    | some i => (l.set i (takeS (l.getD i (0, 0, 0)) q).1, (takeS (l.getD i (0, 0, 0)) q).2)
    | none => (l.take ((l.findIdx? (fun x => decide (s < x.1))).getD l.length) ++ (s, q, 1) :: l.drop ((l.findIdx? (fun x => decide (s < x.1))).getD l.length), true)
end Go.Proofs.Ytdnoejdhphpieaa
