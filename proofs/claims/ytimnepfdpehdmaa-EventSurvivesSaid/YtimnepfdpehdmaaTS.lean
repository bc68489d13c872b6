/- The inputs of layer 13, and the three lists of values. -/
import Derived.Test.YtimnepfdpehdmaaTL
import Derived.Test.YtimnepfdpehdmaaTR
namespace Go.Proofs.Ytimnepfdpehdmaa
open Go.RowKit
attribute [local go_sem ↓] Go.wp_at_zero Go.wp_at_succ

def inpE (x : Int × Int) : List Value := [.int .i64 x.1, .int .i64 x.2]
theorem inp_get {V : Nat → Prop} {w : World} {v : Value} {l : List (Int × Int)} (h : RF V 2 inpE w v l) {i : Nat} {x : Int × Int} (hx : l[i]? = some x) : ∃ b off c, v = .slice (some ⟨b, off, none⟩) l.length c ∧
    w.cell? ⟨b, off + i * 2, none⟩ = some (.int .i64 x.1) ∧ w.cell? ⟨b, off + i * 2 + 1, none⟩ = some (.int .i64 x.2) := by
  obtain ⟨b, off, c, hv, _, _, hc⟩ := h.get hx
  exact ⟨b, off, c, hv, hc 0 _ rfl, hc 1 _ rfl⟩
theorem and32 (x : Int) : bits .and .i64 x 4294967295 = x % 4294967296 := by
  have h : (BitVec.ofInt 64 x &&& BitVec.ofInt 64 4294967295).toNat = (x % 4294967296).toNat := by
    rw [BitVec.toNat_and, show (BitVec.ofInt 64 4294967295).toNat = 2 ^ 32 - 1 by decide +kernel, Nat.and_two_pow_sub_one_eq_mod, BitVec.toNat_ofInt]
    have : ((2 ^ 64 : Nat) : Int) = 18446744073709551616 := by decide +kernel
    rw [this, show (2 : Nat) ^ 32 = 4294967296 by decide +kernel]
    omega
  show IntKind.i64.wrap (((BitVec.ofInt 64 x &&& BitVec.ofInt 64 4294967295).toNat : Nat) : Int) = _
  rw [h, IntKind.wrap_i64]
  omega
theorem neq_stamp_same (a b c : Int) (w : World) : (binOp .neq 26 (.agg #[.int .i64 a, .int .i64 b, .int .i64 c]) (.agg #[.int .i64 a, .int .i64 b, .int .i64 c])).run Try.prog w = .ok (.bool false) w := by
  rw [run_neq_struct, show (10000 : Nat) = 9998 + 1 + 1 from rfl, equal_stamp]
  simp [Result.andThen]
theorem valsOf_inj : ∀ a b : Fin 3, valsI (a.1 : Int) = valsI (b.1 : Int) → a = b := by decide +kernel
theorem vals_inj {a b : Int} (ha : 0 ≤ a ∧ a < 3) (hb : 0 ≤ b ∧ b < 3) (h : valsI a = valsI b) : a = b := by
  have := valsOf_inj ⟨a.toNat, by omega⟩ ⟨b.toNat, by omega⟩ (by simp only; rw [show ((a.toNat : Nat) : Int) = a by omega, show ((b.toNat : Nat) : Int) = b by omega]; exact h)
  simp only [Fin.mk.injEq] at this
  omega
theorem vals_ok (n : Int) : vErr (valsI n) = 0 ∧ (valsI n).length ≤ 24 := by
  unfold valsI
  split
  · decide +kernel
  · split <;> decide +kernel
end Go.Proofs.Ytimnepfdpehdmaa

namespace Go.Proofs.Ytimnepfdpehdmaa
open Go.RowKit Go.ChangeShapes Go.WideShapes
theorem cells_int3 : Try.prog.cellsOf 3 = 1 := by kernel_rfl
set_option maxRecDepth 100000 in
theorem inp_el {H : Type} {enc : TypeId × Value → H} {w : World} {base : Nat} {spare : Nat → Bool} {held : Bool} {fuel : Nat} {cs : List Value} {x : DataW H × List MemPlace}
    (h : DataW.trod enc Try.prog w base spare held fuel 44 cs = some x) : ∃ z : Int × Int, cs = inpE z ∧ (inpE z).length = 2 ∧ True := by
  obtain ⟨xs, m, hm, rfl, hcl, hxl, hf⟩ := DataW.trod_struct Try.underlying44 h
  rw [show Try.prog.cellsOf 44 = 2 by kernel_rfl] at hcl
  match cs, hcl with
  | [c0, c1], _ =>
    match xs, hxl with
    | [y0, y1], _ =>
      have f0 : DataW.trod enc Try.prog w base spare held m 3 [c0] = some y0 := by simpa [cells_int3] using hf 0 _ rfl
      have f1 : DataW.trod enc Try.prog w base spare held m 3 [c1] = some y1 := by simpa [cells_int3] using hf 1 _ rfl
      obtain ⟨s, hs, rfl, _⟩ := DataW.trod_int Try.underlying3 f0
      obtain ⟨q, hq, rfl, _⟩ := DataW.trod_int Try.underlying3 f1
      injection hs with hs
      injection hq with hq
      subst hs hq
      exact ⟨(s, q), rfl, rfl, trivial⟩
end Go.Proofs.Ytimnepfdpehdmaa
