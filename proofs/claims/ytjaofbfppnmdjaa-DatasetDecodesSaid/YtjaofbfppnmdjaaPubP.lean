/- Publishers and messages as plain data: layers 12 and 13. -/
import Derived.Test.YtjaofbfppnmdjaaVal
namespace Go.Proofs.Ytjaofbfppnmdjaa
open Go.RowKit

structure PSt where
  pub : Int
  first : Int
  max : Int
  rev : Int
  started : Bool
  state : Int
  seq : Int
  since : Int
  gap : Int
  sec : Int
  frac : Int
  qual : Int
  vals : List Val
deriving DecidableEq
structure Msg where
  pub : Int
  ttl : Int
  sec : Int
  frac : Int
  qual : Int
  state : Int
  seq : Int
  test : Bool
  rev : Int
  vals : List Val
deriving DecidableEq
/-- The first error of values. -/
def vErr : List Val → Int
  | [] => 0
  | v :: l => if chk v = 0 then vErr l else chk v
/-- The error of a message. -/
def chkM (m : Msg) : Int :=
  if m.pub < 0 ∨ 999 < m.pub ∨ m.ttl < 1 ∨ 65535 < m.ttl then 2
  else if m.state < 1 ∨ 4294967295 < m.state ∨ m.seq < 0 ∨ 4294967295 < m.seq ∨ m.rev < 0 ∨ 4294967295 < m.rev then 2
  else if stErr m.sec m.frac m.qual ≠ 0 then stErr m.sec m.frac m.qual
  else if 24 < m.vals.length then 3
  else vErr m.vals
def bnd (n : Int) : Int := min (max n (-1099511627776)) 1099511627776
def curS (s : PSt) : Msg := { pub := s.pub, ttl := 3 * bnd s.gap + 1, sec := s.sec, frac := s.frac, qual := s.qual, state := s.state, seq := s.seq, test := false, rev := s.rev, vals := s.vals }
/-- What is due: 0 quiet, 1 change, 2 repeat. -/
def dueS (s : PSt) (l : List Val) : Int := if s.started = false ∨ l ≠ s.vals then 1 else if s.since + 1 = s.gap then 2 else 0
def changeS (s : PSt) (l : List Val) (a b c : Int) : PSt :=
  { s with started := true, state := if s.started = true ∧ s.state ≠ 4294967295 then s.state + 1 else 1, seq := 0, gap := s.first, sec := a, frac := b, qual := c, vals := l, since := 0 }
def repeatS (s : PSt) : PSt := { s with seq := if s.seq ≠ 4294967295 then s.seq + 1 else 1, gap := min (2 * bnd s.gap) s.max, since := 0 }
def sendS (s t : PSt) : PSt × List Msg := if chkM (curS t) = 0 then (t, [curS t]) else (s, [])
def stepS (s : PSt) (l : List Val) (a b c : Int) : PSt × List Msg :=
  if dueS s l = 0 then ({ s with since := s.since + 1 }, []) else if dueS s l = 1 then sendS s (changeS s l a b c) else sendS s (repeatS s)
end Go.Proofs.Ytjaofbfppnmdjaa
