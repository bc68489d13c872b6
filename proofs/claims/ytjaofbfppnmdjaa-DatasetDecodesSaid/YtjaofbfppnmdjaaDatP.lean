/- What values are as tags and bytes: the plain functions of layer 11. -/
import Derived.Test.YtjaofbfppnmdjaaVal
namespace Go.Proofs.Ytjaofbfppnmdjaa
open Go.RowKit

/-- The k lowest bytes of a number, the most significant one first. -/
def numB (n : Int) (k : Nat) : List Int := (List.range k).map fun i => n / 2 ^ (8 * (k - 1 - i)) % 256
theorem numB_len (n : Int) (k : Nat) : (numB n k).length = k := by simp [numB]
theorem numB_byt (n : Int) (k : Nat) : Byt (numB n k) := fun x hx => by
  simp only [numB, List.mem_map] at hx
  obtain ⟨i, _, rfl⟩ := hx
  omega
theorem numB_get (n : Int) (k i : Nat) (h : i < k) : (numB n k)[i]? = some (n / 2 ^ (8 * (k - 1 - i)) % 256) := by
  simp [numB, h]
/-- Does a number not fit into k bytes? -/
def wider (n : Int) (k : Nat) : Bool := (n / 2 ^ (8 * k - 1) != 0) && (n / 2 ^ (8 * k - 1) != -1)
def intLenF (n : Int) : Nat → Nat → Nat
  | 0, k => k
  | f + 1, k => if wider n k = true then intLenF n f (k + 1) else k
/-- The fewest bytes of a number. -/
def intLen (n : Int) : Nat := intLenF n 7 1
theorem intLenF_le (n : Int) : ∀ f k, k ≤ intLenF n f k ∧ intLenF n f k ≤ f + k
  | 0, k => by simp [intLenF]
  | f + 1, k => by
    simp only [intLenF]
    split
    · have := intLenF_le n f (k + 1); omega
    · omega
theorem intLen_le (n : Int) : 1 ≤ intLen n ∧ intLen n ≤ 8 := by
  have := intLenF_le n 7 1
  unfold intLen; omega
theorem intLenF_yes (n : Int) (k : Nat) (h : k < 8) (hw : wider n k = true) : intLenF n (8 - k) k = intLenF n (8 - (k + 1)) (k + 1) := by
  obtain ⟨f, hf⟩ : ∃ f, 8 - k = f + 1 := ⟨7 - k, by omega⟩
  rw [hf, show 8 - (k + 1) = f by omega]
  simp only [intLenF, if_pos hw]
theorem intLenF_no (n : Int) (k : Nat) (h : wider n k = false) : intLenF n (8 - k) k = k := by
  cases hf : 8 - k with
  | zero => rfl
  | succ f => simp only [intLenF, h]; rfl
/-- A byte with one bit more. -/
def orB (x : Int) (k : Nat) : Int := bits .or .u8 x (128 / 2 ^ (k % 8))
/-- The byte j of a bit string of which the first k bits are laid. -/
def bitV (s : ByteArray) : Nat → Nat → Int
  | 0, _ => 0
  | k + 1, j => if k / 8 = j ∧ s.data.toList.getD k 0 = 49 then orB (bitV s k j) k else bitV s k j
def padB (n : Nat) : Nat := 8 * ((n + 7) / 8) - n
theorem padB_le (n : Nat) : padB n ≤ 7 := by unfold padB; omega
def bitsB (s : ByteArray) : List Int := (padB s.size : Int) :: (List.range ((s.size + 7) / 8)).map fun j => bitV s s.size j
def strB (s : ByteArray) : List Int := s.data.toList.map fun x => (x.toNat : Int)
theorem strB_byt (s : ByteArray) : Byt (strB s) := fun x hx => by
  simp only [strB, List.mem_map] at hx
  obtain ⟨y, _, rfl⟩ := hx
  have := y.toNat_lt
  omega
theorem strB_len (s : ByteArray) : (strB s).length = s.size := by simp only [strB, List.length_map]; rfl
def tagV (v : Val) : Int := if v.kind = 1 then 131 else if v.kind = 2 then 133 else if v.kind = 3 then 132 else if v.kind = 4 then 138 else 145
def datV (v : Val) : List Int :=
  if v.kind = 1 then numB v.n 1 else if v.kind = 2 then numB v.n (intLen v.n) else if v.kind = 3 then bitsB v.s else if v.kind = 4 then strB v.s
  else numB v.sec 4 ++ numB v.frac 3 ++ numB v.qual 1
theorem orB_le (x : Int) (k : Nat) : 0 ≤ orB x k ∧ orB x k ≤ 255 := by
  have h : orB x k = IntKind.u8.wrap (((BitVec.ofInt 8 x ||| BitVec.ofInt 8 (128 / 2 ^ (k % 8))).toNat : Nat) : Int) := rfl
  rw [h, IntKind.wrap_u8]
  omega
theorem bitV_le (s : ByteArray) : ∀ k j, 0 ≤ bitV s k j ∧ bitV s k j ≤ 255
  | 0, _ => by simp [bitV]
  | k + 1, j => by
    simp only [bitV]
    split
    · exact orB_le _ _
    · exact bitV_le s k j
end Go.Proofs.Ytjaofbfppnmdjaa
