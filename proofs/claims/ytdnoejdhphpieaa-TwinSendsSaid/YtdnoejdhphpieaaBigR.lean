/- Big of the reference, for layer 16. -/
import Derived.Test.YtdnoejdhphpieaaTwH
namespace Go.Proofs.Ytdnoejdhphpieaa
open Go.RowKit
attribute [local go_sem ↓] Go.wp_at_zero Go.wp_at_succ

/-- The k lowest bytes of a number, the most significant one first. -/
def numB (n : Int) (k : Nat) : List Int := (List.range k).map fun i => n / 2 ^ (8 * (k - 1 - i)) % 256
theorem numB_len (n : Int) (k : Nat) : (numB n k).length = k := by simp [numB]
theorem numB_byt (n : Int) (k : Nat) : Byt (numB n k) := fun x hx => by
  simp only [numB, List.mem_map] at hx
  obtain ⟨i, _, rfl⟩ := hx
  omega
theorem numB_get (n : Int) (k i : Nat) (h : i < k) : (numB n k)[i]? = some (n / 2 ^ (8 * (k - 1 - i)) % 256) := by
  simp [numB, h]
/-- It returns a new row of bytes, its own. -/
def RetO (w : World) (bs : List Int) (e : Ending) (w' : World) : Prop := ∃ a c, e = .returned (.slice a bs.length c) ∧ Ext w w' ∧ w'.ownsRow w.heap.size 5 1 (.slice a bs.length c) bs.length (bs.map (Value.int .u8))
theorem take_snocB {bs : List Int} {j : Nat} {x : Int} (h : bs[j]? = some x) : bs.take (j + 1) = bs.take j ++ [x] := by
  rw [List.take_add_one, h]; rfl
set_option maxRecDepth 100000 in
set_option maxHeartbeats 2000000 in
theorem bigR_own (n : Int) (k : Nat) (w : World) (hk : k ≤ 8) : Calls Try.prog 33 #[.int .i64 n, .int .i64 k] w (RetO w (numB n k)) := by
  obtain ⟨i0, hi0, hz0, hz1, hz2⟩ := info_parts info_byteT
  have HF : Hid (∀ w' v, w'.ownsRow w.heap.size 5 1 v k ((numB n k).map (Value.int .u8)) → Ext w w' → ∃ a c, v = .slice a k c ∧ RetO w (numB n k) (.returned (.slice a k c)) w') := fun w' v ho he => by
    obtain ⟨a, c, rfl⟩ := owns_slice ho
    exact ⟨a, c, rfl, a, c, by rw [numB_len], he, by rw [numB_len]; exact ho⟩
  go_enter Try.func33, Try.ntmps33
  go_wp2
  go_loopw [5, 6] (fun v i wr => ∃ j : Nat, j ≤ k ∧ i = .int .i64 ((k : Int) - 1 - j) ∧ wr.ownsRow w.heap.size 5 1 v j (((numB n k).take j).map (Value.int .u8)) ∧ Ext w wr) (fun _ i _ => (intOf i + 1).toNat)
  case atStart => exact ⟨0, by omega, by simp, World.ownsRow_nil _ _ _ _, Ext.refl _⟩
  case round =>
    obtain ⟨j, hj, rfl, hown, hx⟩ := hrel
    by_cases hlt : j < k
    · have hji : (0 : Int) ≤ (k : Int) - 1 - j := by omega
      have hjd : decide ((0 : Int) ≤ (k : Int) - 1 - j) = true := by simpa using hji
      have ht : (8 * ((k : Int) - 1 - j)).toNat = 8 * (k - 1 - j) := by omega
      have HO := Lib.hid hown
      have HT := Lib.hid (take_snocB (numB_get n k j hlt))
      have HX := Lib.hid hx
      generalize hxs : ((numB n k).take j).map (Value.int .u8) = xs at *
      have HXS := Lib.hid hxs
      clear hown hxs hx
      go_wp2_with (at_builtin; refine wpList_append_src _ rfl (.tmp 13) (.tmp 20) _ rfl w.heap.size 5 i0 _ 1 1 Try.underlying51 hi0 hz0 hz1 hz2 rfl (by omega) u5 j xs rfl (own_ext HO.out ((Ext.refl wr).alloc _)) _ 1 1 [.int .u8 (n / 2 ^ (8 * (k - 1 - j)) % 256)] rfl (Src.litB _ #[.int .u8 (n / 2 ^ (8 * (k - 1 - j)) % 256)] 5 1 _ (by simp) rfl (by simp [Value.oneCell'])) (by unfold maxLen; omega) (by omega) (by simp; exact Nat.le_succ_of_le HX.out.size) ?_; intro A1 c1 w1 hown1 hg1 hat1; have hE1 : Ext w w1 := (HX.out.alloc _).grown hg1 (fun g hg => (HO.out.lt g hg).1))
      have HO1 := Lib.hid hown1
      clear hown1 hg1 hat1
      go_wp2
      go_roundw
      case rel => exact ⟨j + 1, by omega, by congr 1; omega, by rw [HT.out, List.map_append, HXS.out]; exact HO1.out, hE1⟩
      case measure => simp [intOf]; omega
    · have hji : ¬ (0 : Int) ≤ (k : Int) - 1 - j := by omega
      have hjk : j = k := by omega
      rw [hjk, List.take_of_length_le (by rw [numB_len]; exact Nat.le_refl _)] at hown
      obtain ⟨a, c, rfl, hF⟩ := HF.out wr _ hown hx
      have HFF := Lib.hid hF
      clear hF hown
      go_wp2
      go_ret
      exact HFF.out
theorem numB_two (n : Int) : numB n 2 = [n / 256 % 256, n % 256] := by simp [numB, List.range_succ]
/-- Two bytes as a source of an append. -/
theorem big2_any (n : Int) (w : World) : Calls Try.prog 33 #[.int .i64 n, .int .i64 2] w fun e w' => ∃ a c, e = .returned (.slice a 2 c) ∧ Ext w w' ∧ Src w' 1 a 2 [.int .u8 (n / 256 % 256), .int .u8 (n % 256)] :=
  (bigR_own n 2 w (by omega)).mono fun e w' ⟨a, c, he, hx, ho⟩ => by
    rw [numB_len] at he
    refine ⟨a, c, he, hx, ?_⟩
    have h1 := Src.bytes (RB.of_own ho (numB_byt n 2) (V := fun g => g < w.heap.size) (fun _ h => h))
    rw [numB_len, numB_two] at h1
    exact h1
end Go.Proofs.Ytdnoejdhphpieaa
