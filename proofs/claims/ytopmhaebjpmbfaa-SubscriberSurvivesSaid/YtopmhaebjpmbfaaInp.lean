/- The inputs of layer 13, and the three lists of values. -/
import Derived.Test.YtopmhaebjpmbfaaPubG
namespace Go.Proofs.Ytopmhaebjpmbfaa
open Go.RowKit
attribute [local go_sem ↓] Go.wp_at_zero Go.wp_at_succ

def inpE (x : Int × Int) : List Value := [.int .i64 x.1, .int .i64 x.2]
theorem inp_get {V : Nat → Prop} {w : World} {v : Value} {l : List (Int × Int)} (h : RF V 2 inpE w v l) {i : Nat} {x : Int × Int} (hx : l[i]? = some x) : ∃ b off c, v = .slice (some ⟨b, off, none⟩) l.length c ∧
    w.cell? ⟨b, off + i * 2, none⟩ = some (.int .i64 x.1) ∧ w.cell? ⟨b, off + i * 2 + 1, none⟩ = some (.int .i64 x.2) := by
  obtain ⟨b, off, c, hv, _, _, hc⟩ := h.get hx
  exact ⟨b, off, c, hv, hc 0 _ rfl, hc 1 _ rfl⟩
theorem and32 (x : Int) : bits .and .i64 x 4294967295 = x % 4294967296 := by
  have h : (BitVec.ofInt 64 x &&& BitVec.ofInt 64 4294967295).toNat = (x % 4294967296).toNat := by
    rw [BitVec.toNat_and, show (BitVec.ofInt 64 4294967295).toNat = 2 ^ 32 - 1 by decide +kernel, Nat.and_two_pow_sub_one_eq_mod, BitVec.toNat_ofInt]
    have : ((2 ^ 64 : Nat) : Int) = 18446744073709551616 := by decide +kernel
    rw [this, show (2 : Nat) ^ 32 = 4294967296 by decide +kernel]
    omega
  show IntKind.i64.wrap (((BitVec.ofInt 64 x &&& BitVec.ofInt 64 4294967295).toNat : Nat) : Int) = _
  rw [h, IntKind.wrap_i64]
  omega
set_option maxRecDepth 100000 in
theorem stamp_any (x : Int × Int) (w : World) : Calls Try.prog 19 #[.agg #[.int .i64 x.1, .int .i64 x.2]] w fun e w' => e = .returned (.agg #[.int .i64 (x.2 % 4294967296), .int .i64 0, .int .i64 0]) ∧ Ext w w' := by
  obtain ⟨p, q⟩ := x
  simp only
  have ha := and32 q
  generalize q % 4294967296 = r at *
  go_enter Try.func19, Try.ntmps19
  go_wp2
  exact bodyPost_ret (v := .agg #[.int .i64 r, .int .i64 0, .int .i64 0]) (by simp [results, Try.results19, go_sem]) rfl ⟨rfl, ((Ext.refl _).alloc _).alloc _⟩
theorem neq_stamp_same (a b c : Int) (w : World) : (binOp .neq 25 (.agg #[.int .i64 a, .int .i64 b, .int .i64 c]) (.agg #[.int .i64 a, .int .i64 b, .int .i64 c])).run Try.prog w = .ok (.bool false) w := by
  rw [run_neq_struct, show (10000 : Nat) = 9998 + 1 + 1 from rfl, equal_stamp]
  simp [Result.andThen]
theorem valsOf_inj : ∀ a b : Fin 3, valsOf (a.1 : Int) = valsOf (b.1 : Int) → a = b := by decide +kernel
theorem vals_inj {a b : Int} (ha : 0 ≤ a ∧ a < 3) (hb : 0 ≤ b ∧ b < 3) (h : valsOf a = valsOf b) : a = b := by
  have := valsOf_inj ⟨a.toNat, by omega⟩ ⟨b.toNat, by omega⟩ (by simp only; rw [show ((a.toNat : Nat) : Int) = a by omega, show ((b.toNat : Nat) : Int) = b by omega]; exact h)
  simp only [Fin.mk.injEq] at this
  omega
theorem vals_ok (n : Int) : vErr (valsOf n) = 0 ∧ (valsOf n).length ≤ 24 := by
  unfold valsOf
  split
  · decide +kernel
  · split <;> decide +kernel
end Go.Proofs.Ytopmhaebjpmbfaa
