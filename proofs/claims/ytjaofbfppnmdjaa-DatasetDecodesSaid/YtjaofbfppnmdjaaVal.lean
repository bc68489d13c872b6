/- Values of layer 11 as plain data: their cells, their error. -/
import Derived.Test.YtjaofbfppnmdjaaFlat
namespace Go.Proofs.Ytjaofbfppnmdjaa
open Go.RowKit

/-- A value: Kind, N, S, and the three numbers of T. -/
structure Val where
  kind : Int
  n : Int
  s : ByteArray
  sec : Int
  frac : Int
  qual : Int
deriving DecidableEq
def valE (v : Val) : List Value := [.int .i64 v.kind, .int .i64 v.n, .string v.s, .int .i64 v.sec, .int .i64 v.frac, .int .i64 v.qual]
abbrev valA (v : Val) : Value := .agg #[.int .i64 v.kind, .int .i64 v.n, .string v.s, .int .i64 v.sec, .int .i64 v.frac, .int .i64 v.qual]
theorem valE_len (v : Val) : (valE v).length = 6 := rfl
theorem valE_one : ∀ (x : Val), ∀ u ∈ valE x, u.oneCell' = true := by
  intro x u hu
  simp only [valE, List.mem_cons, List.not_mem_nil, or_false] at hu
  rcases hu with rfl | rfl | rfl | rfl | rfl | rfl <;> rfl
theorem val_get {V : Nat → Prop} {w : World} {v : Value} {l : List Val} (h : RF V 6 valE w v l) {i : Nat} {x : Val} (hx : l[i]? = some x) : ∃ b off c, v = .slice (some ⟨b, off, none⟩) l.length c ∧
    w.cell? ⟨b, off + i * 6, none⟩ = some (.int .i64 x.kind) ∧ w.cell? ⟨b, off + i * 6 + 1, none⟩ = some (.int .i64 x.n) ∧ w.cell? ⟨b, off + i * 6 + 2, none⟩ = some (.string x.s) ∧
    w.cell? ⟨b, off + i * 6 + 3, none⟩ = some (.int .i64 x.sec) ∧ w.cell? ⟨b, off + i * 6 + 4, none⟩ = some (.int .i64 x.frac) ∧ w.cell? ⟨b, off + i * 6 + 5, none⟩ = some (.int .i64 x.qual) := by
  obtain ⟨b, off, c, hv, _, _, hc⟩ := h.get hx
  exact ⟨b, off, c, hv, hc 0 _ rfl, hc 1 _ rfl, hc 2 _ rfl, hc 3 _ rfl, hc 4 _ rfl, hc 5 _ rfl⟩
theorem bytes_eq {a b : ByteArray} : a = b ↔ a.toList = b.toList := by
  constructor
  · rintro rfl; rfl
  · intro h
    rw [ByteArray.toList_eq, ByteArray.toList_eq] at h
    exact ByteArray.ext (Array.ext' h)
theorem val_eq (x y : Val) : (x = y) ↔ (x.kind = y.kind ∧ x.n = y.n ∧ x.s.toList = y.s.toList ∧ x.sec = y.sec ∧ x.frac = y.frac ∧ x.qual = y.qual) := by
  obtain ⟨a, b, c, d, e, f⟩ := x
  obtain ⟨a', b', c', d', e', f'⟩ := y
  simp only [Val.mk.injEq, bytes_eq]

/-! ### The error of a value -/
def stErr (sec frac qual : Int) : Int := if sec < 0 ∨ 4294967295 < sec ∨ frac < 0 ∨ 16777215 < frac ∨ qual < 0 ∨ 255 < qual then 2 else 0
def bitB (s : ByteArray) : Bool := s.toList.all fun c => c == 48 || c == 49
def bitErr (s : ByteArray) : Int := if 64 < s.size then 4 else if bitB s = true then 0 else 5
/-- No number; no string; no time. -/
def noN (v : Val) : Bool := decide (v.n = 0)
def noS (v : Val) : Bool := v.s.toList.isEmpty
def noT (v : Val) : Bool := decide (v.sec = 0) && decide (v.frac = 0) && decide (v.qual = 0)
def chk (v : Val) : Int :=
  if v.kind = 1 then (if noS v && noT v then (if v.n = 0 ∨ v.n = 1 then 0 else 2) else 12)
  else if v.kind = 2 then (if noS v && noT v then 0 else 12)
  else if v.kind = 3 then (if noN v && noT v then bitErr v.s else 12)
  else if v.kind = 4 then (if noN v && noT v then (if 64 < v.s.size then 4 else 0) else 12)
  else if v.kind = 5 then (if noN v && noS v then stErr v.sec v.frac v.qual else 12)
  else 10
end Go.Proofs.Ytjaofbfppnmdjaa
