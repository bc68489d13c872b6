/- Parts of a byte slice as the walk meets them: the address is kept as one term. -/
import Derived.Test.YtjaofbfppnmdjaaChecked
import Derived.Test.YtjaofbfppnmdjaaBase
namespace Go.Proofs.Ytjaofbfppnmdjaa
open Go.RowKit

/-- Where a part that begins at f begins: Go leaves the address where nothing is left of the capacity. -/
def cutA (b off cap f : Nat) : Option Addr := some (if cap = f then ⟨b, off, none⟩ else ⟨b, off + f, none⟩)
theorem sliced_cut (b off l h m : Nat) : sliced (some ⟨b, off, none⟩) l h m 1 = .slice (cutA b off m l) (h - l) (m - l) := by
  unfold sliced cutA
  split <;> simp [Addr.add]
theorem slice_lh (w : World) (b off len cap f n : Nat) (h : f + n ≤ cap) :
    (Instr.slice 25 (.slice (some ⟨b, off, none⟩) len cap) (some (.int .i64 f)) (some (.int .i64 ((f : Int) + n))) none).run Try.prog w = .ok (.slice (cutA b off cap f) n (cap - f)) w := by
  rw [run_slice_lh w _ _ _ _ (by kernel_rfl) _ _ _ _ (by omega) (by omega) (by omega)]
  have hs : (sizeOf (Try.prog.elem 25)).run Try.prog w = .ok 1 w := by kernel_rfl
  rw [hs]
  simp only [Result.andThen, sliced_cut]
  rw [show ((f : Int) + n).toNat - (f : Int).toNat = n by omega, show (f : Int).toNat = f by omega]
theorem slice_lhm (w : World) (b off len cap f n : Nat) (h : f + n ≤ cap) :
    (Instr.slice 25 (.slice (some ⟨b, off, none⟩) len cap) (some (.int .i64 f)) (some (.int .i64 ((f : Int) + n))) (some (.int .i64 ((f : Int) + n)))).run Try.prog w = .ok (.slice (cutA b off (f + n) f) n n) w := by
  rw [run_slice_lhm w _ _ _ _ (by kernel_rfl) _ _ _ _ _ _ (by omega) (by omega) (by omega) (by omega)]
  have hs : (sizeOf (Try.prog.elem 25)).run Try.prog w = .ok 1 w := by kernel_rfl
  rw [hs]
  simp only [Result.andThen, sliced_cut]
  rw [show ((f : Int) + n).toNat - (f : Int).toNat = n by omega, show (f : Int).toNat = f by omega, show ((f : Int) + n).toNat = f + n by omega]
theorem slice_l (w : World) (b off len cap f n : Nat) (h : f + n ≤ len) :
    (Instr.slice 25 (.slice (some ⟨b, off, none⟩) len cap) (some (.int .i64 ((f : Int) + n))) none none).run Try.prog w = .ok (.slice (cutA b off cap (f + n)) (len - (f + n)) (cap - (f + n))) w := by
  rw [run_slice_l w _ _ _ _ (by kernel_rfl) _ _ (by omega) (by omega)]
  have hs : (sizeOf (Try.prog.elem 25)).run Try.prog w = .ok 1 w := by kernel_rfl
  rw [hs]
  simp only [Result.andThen, sliced_cut]
  rw [show ((f : Int) + n).toNat = f + n by omega]
theorem slice_h (w : World) (b off len cap n : Nat) (h : n ≤ cap) :
    (Instr.slice 25 (.slice (some ⟨b, off, none⟩) len cap) none (some (.int .i64 n)) none).run Try.prog w = .ok (.slice (some ⟨b, off, none⟩) n cap) w := by
  rw [run_slice_h w _ _ _ _ (by kernel_rfl) _ _ (by omega) (by omega)]
  have hs : (sizeOf (Try.prog.elem 25)).run Try.prog w = .ok 1 w := by kernel_rfl
  rw [hs]
  simp only [Result.andThen, sliced_cut]
  rw [show (n : Int).toNat - 0 = n by omega]
  unfold cutA
  simp
theorem RB.cut {V : Nat → Prop} {w : World} {b off m c : Nat} {bs : List Int} (h : RB V w (.slice (some ⟨b, off, none⟩) m c) bs) (f n cap c' : Nat) (hf : f + n ≤ bs.length) (hcap : f + n ≤ cap) (hc : n ≤ c') (hm : c' ≤ maxLen) :
    RB V w (.slice (cutA b off cap f) n c') ((bs.drop f).take n) := by
  have hl : ((bs.drop f).take n).length = n := by simp; omega
  refine ⟨(h.byt.drop f).take n, cutA b off cap f, c', by rw [hl], by omega, hm, fun hne => ?_⟩
  have hn : 0 < n := by
    have := List.length_pos_iff.2 hne
    omega
  obtain ⟨b1, off1, c1, hv, _, _, hV, hcell⟩ := h.at_ (by omega)
  simp only [Value.slice.injEq, Option.some.injEq, Addr.mk.injEq] at hv
  obtain ⟨⟨rfl, rfl, -⟩, -, -⟩ := hv
  refine ⟨b, off + f, ?_, hV, fun j hj => ?_⟩
  · unfold cutA
    rw [if_neg (by omega)]
  · have hj2 : j < n := by omega
    have := hcell (f + j) (by omega)
    rw [show off + f + j = off + (f + j) by omega, this]
    simp
end Go.Proofs.Ytjaofbfppnmdjaa
