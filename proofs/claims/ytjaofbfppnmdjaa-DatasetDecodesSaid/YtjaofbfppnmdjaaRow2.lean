/- Two rows that a call builds side by side by append. Nothing of the program stands here. -/
import Derived.Test.YtjaofbfppnmdjaaBlk
namespace Go.Proofs.Ytjaofbfppnmdjaa
open Go.RowKit

theorem own_agree {V : Nat → Prop} {w w' : World} {base : Nat} {e : TypeId} {size : Nat} {v : Value} {n : Nat} {xs : List Value} (h : w.ownsRow base e size v n xs) (ha : Agree V w w') (hv : ∀ g, v.ownBlock = some g → ¬ V g) : w'.ownsRow base e size v n xs := by
  refine ⟨h.1, ?_⟩
  rcases h.2 with hn | ⟨g, cap, cur, rfl, hb, hgg, rest⟩
  · exact .inl hn
  · exact .inr ⟨g, cap, cur, rfl, hb, (ha.block g (Array.getElem?_eq_some_iff.1 hgg).1 (hv g rfl)).trans hgg, rest⟩
theorem Bk.agree {V : Nat → Prop} {w w' : World} {B : Nat} {t : TypeId} {cs : Array Value} (h : Bk w B t cs) (ha : Agree V w w') (hB : ¬ V B) : Bk w' B t cs := (ha.block B h.lt hB).trans h
theorem Src.single {w : World} {x : Value} {b : Nat} (h : w.cell? ⟨b, 0, none⟩ = some x) (hx : x.oneCell' = true) : Src w 1 (some ⟨b, 0, none⟩) 1 [x] :=
  ⟨rfl, (fun h => by cases h), (fun ad e j u hu => by
    injection e with e
    subst e
    cases j with
    | zero => simp only [List.getElem?_cons_zero, Option.some.injEq] at hu; subst hu; exact h
    | succ j => simp at hu), fun u hu => by simp only [List.mem_singleton] at hu; subst hu; exact hx⟩
structure Rows2 (e : TypeId) (w : World) (B : Nat) (va vt : Value) (n m : Nat) (xs ys : List Value) : Prop where
  a : w.ownsRow (B + 1) e 1 va n xs
  t : w.ownsRow (B + 1) e 1 vt m ys
  ap : ∀ g, va.ownBlock = some g → vt.ownBlock ≠ some g
def RowsV (va vt : Value) : Nat → Prop := fun b => va.ownBlock = some b ∨ vt.ownBlock = some b
def Vrow (B : Nat) (va vt : Value) : Nat → Prop := fun b => b = B ∨ RowsV va vt b
section
variable {e : TypeId} {w w' w1 wx : World} {B : Nat} {va vt va' vt' va0 vt0 : Value} {n m : Nat} {xs ys : List Value} {x y : Value}
theorem Rows2.ext (h : Rows2 e w B va vt n m xs ys) (he : Ext w w') : Rows2 e w' B va vt n m xs ys := ⟨own_ext h.a he, own_ext h.t he, h.ap⟩
theorem Rows2.lt (h : Rows2 e w B va vt n m xs ys) {g : Nat} (hg : RowsV va vt g) : B < g ∧ g < w.heap.size := by
  rcases hg with hg | hg
  · have := h.a.lt g hg; omega
  · have := h.t.lt g hg; omega
theorem Rows2.stored (h : Rows2 e w B va vt n m xs ys) (vs : List Value) : Rows2 e (put w B 0 vs) B va vt n m xs ys :=
  ⟨own_agree h.a (agree_put (V := (· = B)) rfl vs 0 w) (fun g hg => by have := h.lt (.inl hg); omega), own_agree h.t (agree_put (V := (· = B)) rfl vs 0 w) (fun g hg => by have := h.lt (.inr hg); omega), h.ap⟩
/-- The two rows since world wx, where they were va0 and vt0. -/
structure TwoR (e : TypeId) (wx : World) (va0 vt0 : Value) (w : World) (B : Nat) (va vt : Value) (n m : Nat) (xs ys : List Value) : Prop where
  r : Rows2 e w B va vt n m xs ys
  ag : Agree (RowsV va0 vt0) wx w
  na : ∀ g, va.ownBlock = some g → va0.ownBlock = some g ∨ wx.heap.size ≤ g
  nt : ∀ g, vt.ownBlock = some g → vt0.ownBlock = some g ∨ wx.heap.size ≤ g
  st : w.os = wx.os ∧ w.tape = wx.tape ∧ w.output = wx.output
theorem TwoR.start (h : Rows2 e wx B va vt n m xs ys) : TwoR e wx va vt wx B va vt n m xs ys := ⟨h, Agree.refl _ _, fun _ h => .inl h, fun _ h => .inl h, rfl, rfl, rfl⟩
theorem TwoR.ext (h : TwoR e wx va0 vt0 w B va vt n m xs ys) (he : Ext w w') : TwoR e wx va0 vt0 w' B va vt n m xs ys := ⟨h.r.ext he, h.ag.trans (he.agree _), h.na, h.nt, (Below.os he).trans h.st.1, (Below.tape he).trans h.st.2.1, (Below.output he).trans h.st.2.2⟩
theorem TwoR.ownA (h : TwoR e wx va0 vt0 w B va vt n m xs ys) : w.ownsRow (B + 1) e 1 va n xs := h.r.a
theorem TwoR.ownT (h : TwoR e wx va0 vt0 w B va vt n m xs ys) : w.ownsRow (B + 1) e 1 vt m ys := h.r.t
theorem TwoR.base (h : TwoR e wx va0 vt0 w B va vt n m xs ys) (hB : B + 1 ≤ wx.heap.size) : B + 1 ≤ w.heap.size := Nat.le_trans hB h.ag.size
theorem TwoR.cell (h : TwoR e wx va0 vt0 w B va vt n m xs ys) {p : Addr} {v : Value} (hp : ¬ RowsV va0 vt0 p.block) (hc : wx.cell? p = some v) : w.cell? p = some v := h.ag.cell hp hc
theorem TwoR.appA (h : TwoR e wx va0 vt0 w B va vt n m xs ys) (o : w1.ownsRow (B + 1) e 1 va' (n + 1) (xs ++ [x])) (g : w.grownBy w1 va.ownBlock) (b : va'.ownBlock = va.ownBlock ∨ va'.ownBlock = some w.heap.size) :
    TwoR e wx va0 vt0 w1 B va' vt (n + 1) m (xs ++ [x]) ys := by
  refine ⟨⟨o, h.r.t.kept g ?_, fun k hk => ?_⟩, ⟨Nat.le_trans h.ag.size g.size, fun k hk hv => (g.block k (Nat.lt_of_lt_of_le hk h.ag.size) (fun e' => ?_)).trans (h.ag.block k hk hv)⟩, fun k hk => ?_, h.nt, g.os.trans h.st.1, g.tape.trans h.st.2.1, g.output.trans h.st.2.2⟩
  · cases hv : vt.ownBlock with
    | none => exact .inl rfl
    | some q => exact .inr (fun e' => h.r.ap q e'.symm hv)
  · rcases b with b | b
    · exact h.r.ap k (by rw [← b]; exact hk)
    · rw [hk] at b
      injection b with b
      subst b
      intro h2
      have := h.r.t.lt _ h2
      omega
  · rcases h.na k e'.symm with h3 | h3
    · exact hv (.inl h3)
    · omega
  · rcases b with b | b
    · exact h.na k (by rw [← b]; exact hk)
    · rw [hk] at b
      injection b with b
      subst b
      exact .inr h.ag.size
theorem TwoR.swap (h : TwoR e wx va0 vt0 w B va vt n m xs ys) : TwoR e wx vt0 va0 w B vt va m n ys xs :=
  ⟨⟨h.r.t, h.r.a, fun g h1 h2 => h.r.ap g h2 h1⟩, h.ag.mono (fun _ h => h.symm), h.nt, h.na, h.st⟩
theorem TwoR.appT (h : TwoR e wx va0 vt0 w B va vt n m xs ys) (o : w1.ownsRow (B + 1) e 1 vt' (m + 1) (ys ++ [y])) (g : w.grownBy w1 vt.ownBlock) (b : vt'.ownBlock = vt.ownBlock ∨ vt'.ownBlock = some w.heap.size) :
    TwoR e wx va0 vt0 w1 B va vt' n (m + 1) xs (ys ++ [y]) := (h.swap.appA o g b).swap
/-- What was there ahead of the rows is as it was. -/
theorem TwoR.below {w0 : World} (h : TwoR e wx va0 vt0 w B va vt n m xs ys) (hx : Ext w0 wx) (hB : w0.heap.size ≤ B) (hr : ∀ g, RowsV va0 vt0 g → B < g) : Ext w0 w :=
  ⟨h.st.1.trans (Below.os hx), h.st.2.1.trans (Below.tape hx), h.st.2.2.trans (Below.output hx), Nat.le_trans hx.size h.ag.size,
    fun k hk => (h.ag.block k (Nat.lt_of_lt_of_le hk hx.size) (fun hv => by have := hr k hv; omega)).trans (Below.block hx k hk)⟩
/-- A slice of structs that lies outside the rows as they were, lies outside the rows as they are. -/
theorem TwoR.flat {α : Type} {k : Nat} {enc : α → List Value} {v : Value} {l : List α} (hk : 0 < k) (h : TwoR e wx va0 vt0 w B va vt n m xs ys) (hr : RF (Vrow B va0 vt0) k enc wx v l) : RF (Vrow B va vt) k enc w v l := by
  have h1 : RF (fun b => Vrow B va vt b ∨ RowsV va0 vt0 b) k enc wx v l := hr.weak hk (fun g hg hv => by
    rcases hv with hv | hv
    · rcases hv with hv | hv | hv
      · exact .inl hv
      · rcases h.na g hv with h2 | h2
        · exact .inr (.inl h2)
        · omega
      · rcases h.nt g hv with h2 | h2
        · exact .inr (.inr h2)
        · omega
    · exact .inr hv)
  exact (h1.agree (h.ag.mono (fun _ h => .inr h))).weak hk (fun _ _ h => .inl h)
end
end Go.Proofs.Ytjaofbfppnmdjaa
