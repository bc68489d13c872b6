/- Subscribers as plain data: layer 14. -/
import Derived.Test.YtopmhaebjpmbfaaPubP
namespace Go.Proofs.Ytopmhaebjpmbfaa

structure SSt where
  pub : Int
  rev : Int
  known : Bool
  state : Int
  seq : Int
  left : Int
  lost : Int
  test : Bool
  vals : List Val
deriving DecidableEq
/-- The distance from a to b. -/
def dist (a b : Int) : Int := (b % 4294967295 - a % 4294967295) % 4294967295
def newB (a b : Int) : Bool := decide (1 ≤ dist a b) && decide (dist a b ≤ 2147483647)
def raiseS (n k : Int) : Int := if 1000000 ≤ n ∨ 1000000 ≤ n + k then 1000000 else n + k
def accS (s : SSt) (m : Msg) (k : Int) : SSt := ⟨s.pub, s.rev, true, m.state, m.seq, m.ttl, raiseS s.lost k, m.test, m.vals⟩
def takeS (s : SSt) (m : Msg) : SSt × Int :=
  if chkM m ≠ 0 ∨ m.pub ≠ s.pub ∨ m.rev ≠ s.rev then (s, 0)
  else if s.known = false then (accS s m 0, 1)
  else if s.left < 1 then (accS s m 0, 5)
  else if m.state = s.state then
    if newB s.seq m.seq = true ∧ m.test = s.test ∧ m.vals = s.vals then (accS s m (dist s.seq m.seq - 1), 3) else (s, 4)
  else if newB s.state m.state = true then (accS s m (dist s.state m.state - 1 + m.seq), 2) else (s, 4)
def tickS (s : SSt) : SSt := if 0 < s.left then { s with left := s.left - 1 } else s
def validS (s : SSt) : Bool := s.known && decide (0 < s.left) && !s.test
def newSub (p r : Int) : SSt := ⟨p, r, false, 0, 0, 0, 0, false, []⟩
theorem dist_small {a b : Int} (h1 : 0 ≤ a) (h2 : a ≤ 1000000000) (h3 : 0 ≤ b) (h4 : b ≤ 1000000000) : (newB a b = true ↔ a < b) ∧ (a < b → dist a b = b - a) := by
  unfold newB dist
  rw [Bool.and_eq_true, decide_eq_true_eq, decide_eq_true_eq]
  omega
theorem dist_lo (a b : Int) : 0 ≤ dist a b ∧ dist a b ≤ 4294967294 := by unfold dist; omega
end Go.Proofs.Ytopmhaebjpmbfaa
