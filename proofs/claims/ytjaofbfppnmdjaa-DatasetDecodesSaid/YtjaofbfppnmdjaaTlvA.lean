/- Contracts of the leaves of layer 10: Nested, isTag, lengthBytes of the program and of the reference. -/
import Derived.Test.YtjaofbfppnmdjaaChecked
import Derived.Test.YtjaofbfppnmdjaaBase
namespace Go.Proofs.Ytjaofbfppnmdjaa
open Go.RowKit

def nestB (t : Int) : Bool := bits .and .i64 t 32 != 0
def tagB (t : Int) : Bool := decide (1 ≤ t) && decide (t ≤ 254) && (bits .and .i64 t 31 != 31)
/-- The bytes of a length. -/
def lenB (n : Nat) : List Int := if n < 128 then [(n : Int)] else if n < 256 then [129, (n : Int)] else [130, (n : Int) / 256 % 256, (n : Int) % 256]
theorem lenB_byt (n : Nat) : Byt (lenB n) := by
  unfold lenB
  split
  · intro x hx; simp at hx; omega
  split
  · intro x hx; simp at hx; omega
  · intro x hx; simp at hx; omega
theorem lenB_le (n : Nat) : (lenB n).length ≤ 3 := by
  unfold lenB; split <;> (try split) <;> simp
theorem lenB_pos (n : Nat) : 1 ≤ (lenB n).length := by
  unfold lenB; split <;> (try split) <;> simp

/-- It returns a new byte slice that reads as bs. -/
def RetB (w : World) (bs : List Int) (e : Ending) (w' : World) : Prop :=
  ∃ a c, e = .returned (.slice a bs.length c) ∧ Ext w w' ∧ ∀ V : Nat → Prop, (∀ k, V k → k < w.heap.size) → RB V w' (.slice a bs.length c) bs
theorem RetB.lit {w : World} {t : TypeId} (bs : List Int) (cs : Array Value) (n : Nat) (hn : n = bs.length) (hcs : cs = (bs.map (Value.int .u8)).toArray) (hb : Byt bs) (hm : bs.length ≤ 65536) :
    RetB w bs (.returned (.slice (some ⟨w.heap.size, 0, none⟩) n n)) (w.alloc (.cells cs t)) := by
  subst hn hcs
  refine ⟨_, _, rfl, (Ext.refl w).alloc _, fun V hV => ⟨hb, _, _, rfl, Nat.le_refl _, by unfold maxLen; omega, fun _ => ⟨w.heap.size, 0, rfl, fun h => by have := hV _ h; omega, fun j hj => ?_⟩⟩⟩
  simp [hj]

theorem nestedP_any (t : Int) (w : World) : Calls Try.prog 83 #[.int .i64 t] w fun e w' => e = .returned (.bool (nestB t)) ∧ w = w' := by
  go_enter Try.func83, Try.ntmps83
  go_wp2
  go_ret
  exact ⟨rfl, rfl⟩
theorem isTag_any (t : Int) (w : World) : Calls Try.prog 81 #[.int .i64 t] w fun e w' => e = .returned (.bool (tagB t)) ∧ w = w' := by
  go_enter Try.func81, Try.ntmps81
  go_wp2
  all_goals go_ret
  all_goals refine ⟨?_, rfl⟩
  all_goals (unfold tagB; simp [*])
  all_goals omega
theorem lengthBytes_int (x : Int) (w : World) (h0 : 0 ≤ x) : Calls Try.prog 85 #[.int .i64 x] w fun e w' =>
    (x < 128 → e = .returned (.slice (some ⟨w.heap.size, 0, none⟩) 1 1) ∧ w' = w.alloc (.cells #[.int .u8 x] 5)) ∧
    (128 ≤ x → x < 256 → e = .returned (.slice (some ⟨w.heap.size, 0, none⟩) 2 2) ∧ w' = w.alloc (.cells #[.int .u8 129, .int .u8 x] 5)) ∧
    (256 ≤ x → e = .returned (.slice (some ⟨w.heap.size, 0, none⟩) 3 3) ∧ w' = w.alloc (.cells #[.int .u8 130, .int .u8 (x / 256 % 256), .int .u8 (x % 256)] 5)) := by
  go_enter Try.func85, Try.ntmps85
  go_wp2
  all_goals go_ret
  · exact ⟨fun _ => ⟨rfl, rfl⟩, fun _ _ => by omega, fun _ => by omega⟩
  · exact ⟨fun _ => by omega, fun _ _ => ⟨rfl, rfl⟩, fun _ => by omega⟩
  · exact ⟨fun _ => by omega, fun _ _ => by omega, fun _ => ⟨rfl, rfl⟩⟩
theorem lengthBytes_any (n : Nat) (w : World) : Calls Try.prog 85 #[.int .i64 n] w (RetB w (lenB n)) := by
  refine (lengthBytes_int n w (by omega)).mono fun e w' ⟨c1, c2, c3⟩ => ?_
  have hb := lenB_byt n
  by_cases h1 : n < 128
  · have e : lenB n = [(n : Int)] := by unfold lenB; rw [if_pos h1]
    obtain ⟨rfl, rfl⟩ := c1 (by omega)
    rw [e] at hb ⊢
    exact RetB.lit _ _ _ rfl rfl hb (by simp)
  by_cases h2 : n < 256
  · have e : lenB n = [129, (n : Int)] := by unfold lenB; rw [if_neg h1, if_pos h2]
    obtain ⟨rfl, rfl⟩ := c2 (by omega) (by omega)
    rw [e] at hb ⊢
    exact RetB.lit _ _ _ rfl rfl hb (by simp)
  · have e : lenB n = [130, (n : Int) / 256 % 256, (n : Int) % 256] := by unfold lenB; rw [if_neg h1, if_neg h2]
    obtain ⟨rfl, rfl⟩ := c3 (by omega)
    rw [e] at hb ⊢
    exact RetB.lit _ _ _ rfl rfl hb (by simp)
theorem nestedR_any (t : Int) (w : World) : Calls Try.prog 87 #[.int .i64 t] w fun e w' => e = .returned (.bool (nestB t)) ∧ w = w' := by
  go_enter Try.func87, Try.ntmps87
  go_wp2
  go_ret
  exact ⟨rfl, rfl⟩
theorem tagR_any (t : Int) (w : World) : Calls Try.prog 86 #[.int .i64 t] w fun e w' => e = .returned (.bool (tagB t)) ∧ w = w' := by
  go_enter Try.func86, Try.ntmps86
  go_wp2
  all_goals go_ret
  all_goals refine ⟨?_, rfl⟩
  all_goals (unfold tagB; simp [*])
  all_goals omega
theorem lengthR_int (x : Int) (w : World) (h0 : 0 ≤ x) : Calls Try.prog 88 #[.int .i64 x] w fun e w' =>
    (x < 128 → e = .returned (.slice (some ⟨w.heap.size, 0, none⟩) 1 1) ∧ w' = w.alloc (.cells #[.int .u8 x] 5)) ∧
    (128 ≤ x → x < 256 → e = .returned (.slice (some ⟨w.heap.size, 0, none⟩) 2 2) ∧ w' = w.alloc (.cells #[.int .u8 129, .int .u8 x] 5)) ∧
    (256 ≤ x → e = .returned (.slice (some ⟨w.heap.size, 0, none⟩) 3 3) ∧ w' = w.alloc (.cells #[.int .u8 130, .int .u8 (x / 256 % 256), .int .u8 (x % 256)] 5)) := by
  go_enter Try.func88, Try.ntmps88
  go_wp2
  all_goals go_ret
  · exact ⟨fun _ => ⟨rfl, rfl⟩, fun _ _ => by omega, fun _ => by omega⟩
  · exact ⟨fun _ => by omega, fun _ _ => ⟨rfl, rfl⟩, fun _ => by omega⟩
  · exact ⟨fun _ => by omega, fun _ _ => by omega, fun _ => ⟨rfl, rfl⟩⟩
theorem lengthR_any (n : Nat) (w : World) : Calls Try.prog 88 #[.int .i64 n] w (RetB w (lenB n)) := by
  refine (lengthR_int n w (by omega)).mono fun e w' ⟨c1, c2, c3⟩ => ?_
  have hb := lenB_byt n
  by_cases h1 : n < 128
  · have e : lenB n = [(n : Int)] := by unfold lenB; rw [if_pos h1]
    obtain ⟨rfl, rfl⟩ := c1 (by omega)
    rw [e] at hb ⊢
    exact RetB.lit _ _ _ rfl rfl hb (by simp)
  by_cases h2 : n < 256
  · have e : lenB n = [129, (n : Int)] := by unfold lenB; rw [if_neg h1, if_pos h2]
    obtain ⟨rfl, rfl⟩ := c2 (by omega) (by omega)
    rw [e] at hb ⊢
    exact RetB.lit _ _ _ rfl rfl hb (by simp)
  · have e : lenB n = [130, (n : Int) / 256 % 256, (n : Int) % 256] := by unfold lenB; rw [if_neg h1, if_neg h2]
    obtain ⟨rfl, rfl⟩ := c3 (by omega)
    rw [e] at hb ⊢
    exact RetB.lit _ _ _ rfl rfl hb (by simp)
end Go.Proofs.Ytjaofbfppnmdjaa
