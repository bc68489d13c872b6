/- Step of a publisher, whatever is due: layer 13. -/
import Derived.Test.YtimnepfdpehdmaaPubC
import Derived.Test.YtimnepfdpehdmaaPubD
import Derived.Test.YtimnepfdpehdmaaPubE
import Derived.Test.YtimnepfdpehdmaaChecked
import Derived.Test.YtimnepfdpehdmaaTA
import Derived.Deep.DeepCutAuto
import Derived.Test.YtimnepfdpehdmaaTD
namespace Go.Proofs.Ytimnepfdpehdmaa
open Go.RowKit

theorem due_cases (s : PSt) (l : List Val) : dueS s l = 0 ∨ dueS s l = 1 ∨ dueS s l = 2 := by
  unfold dueS
  split
  · exact .inr (.inl rfl)
  · split
    · exact .inr (.inr rfl)
    · exact .inl rfl
theorem step_any (s : PSt) (l : List Val) (t1 t2 t3 : Int) (v u : Value) (w : World) (hv : RF Any 6 valE w v s.vals) (hu : RF Any 6 valE w u l) (hl : s.vals.length ≤ 1000000000) (hl' : l.length ≤ 1000000000) (hm : Mod s) :
    Calls Try.prog 8 #[pubA s v, u, .agg #[.int .i64 t1, .int .i64 t2, .int .i64 t3]] w (RetP w (stepS s l t1 t2 t3)) := by
  unfold stepS
  rcases due_cases s l with h | h | h
  · rw [if_pos h]
    exact step_quiet s l t1 t2 t3 v u w hv hu hl hl' hm h
  · rw [if_neg (by omega), if_pos h]
    cases hst : s.started
    · have e : changeS s l t1 t2 t3 = ⟨s.pub, s.first, s.max, s.rev, true, 1, 0, 0, s.first, t1, t2, t3, l⟩ := by unfold changeS; rw [if_neg (by rw [hst]; simp)]
      rw [e]
      exact step_change0 s l t1 t2 t3 v u w hv hu hl hl' hm h hst
    · by_cases hs : s.state = 4294967295
      · have e : changeS s l t1 t2 t3 = ⟨s.pub, s.first, s.max, s.rev, true, 1, 0, 0, s.first, t1, t2, t3, l⟩ := by unfold changeS; rw [if_neg (by rw [hs]; simp)]
        rw [e]
        exact step_change1 s l t1 t2 t3 v u w hv hu hl hl' hm h hst (by rw [hs]; rfl)
      · have e : changeS s l t1 t2 t3 = ⟨s.pub, s.first, s.max, s.rev, true, s.state + 1, 0, 0, s.first, t1, t2, t3, l⟩ := by unfold changeS; rw [if_pos ⟨hst, hs⟩]
        rw [e]
        exact step_change2 s l t1 t2 t3 v u w hv hu hl hl' hm h hst (by simpa using hs)
  · rw [if_neg (by omega), if_neg (by omega)]
    by_cases hs : s.seq = 4294967295
    · have e : repeatS s = ⟨s.pub, s.first, s.max, s.rev, s.started, s.state, 1, 0, min (2 * bnd s.gap) s.max, s.sec, s.frac, s.qual, s.vals⟩ := by unfold repeatS; rw [if_neg (by rw [hs]; simp)]
      rw [e]
      exact step_repeat0 s l t1 t2 t3 v u w hv hu hl hl' hm h (by rw [hs]; rfl)
    · have e : repeatS s = ⟨s.pub, s.first, s.max, s.rev, s.started, s.state, s.seq + 1, 0, min (2 * bnd s.gap) s.max, s.sec, s.frac, s.qual, s.vals⟩ := by unfold repeatS; rw [if_pos hs]
      rw [e]
      exact step_repeat1 s l t1 t2 t3 v u w hv hu hl hl' hm h (by simpa using hs)
end Go.Proofs.Ytimnepfdpehdmaa

namespace Go.Proofs.Ytimnepfdpehdmaa
open Go.RowKit
attribute [local go_sem ↓] Go.wp_at_zero Go.wp_at_succ

end Go.Proofs.Ytimnepfdpehdmaa

namespace Go.Proofs.Ytimnepfdpehdmaa
open Go.RowKit
attribute [local go_sem ↓] Go.wp_at_zero Go.wp_at_succ

def nul : ByteArray := ⟨#[]⟩
def truI (b : Bool) : Val := ⟨1, if b = true then 1 else 0, ⟨#[]⟩, 0, 0, 0⟩
theorem truI_any (b : Bool) (w : World) : Calls Try.prog 23 #[.bool b] w fun e w' => e = .returned (valA (truI b)) ∧ Ext w w' := by
  cases b
  · go_enter Try.func23, Try.ntmps23
    go_wp2
    exact bodyPost_ret (v := .agg #[.int .i64 1, .int .i64 0, .string ⟨#[]⟩, .int .i64 0, .int .i64 0, .int .i64 0]) (by simp [results, Try.results23, go_sem]) rfl ⟨rfl, (Ext.refl _).alloc _⟩
  · go_enter Try.func23, Try.ntmps23
    go_wp2
    exact bodyPost_ret (v := .agg #[.int .i64 1, .int .i64 1, .string ⟨#[]⟩, .int .i64 0, .int .i64 0, .int .i64 0]) (by simp [results, Try.results23, go_sem]) rfl ⟨rfl, (Ext.refl _).alloc _⟩
def V0 : List Val := [⟨1, 0, ⟨#[]⟩, 0, 0, 0⟩]
def V1 : List Val := [⟨1, 1, ⟨#[]⟩, 0, 0, 0⟩, ⟨2, 5, ⟨#[]⟩, 0, 0, 0⟩]
def V2 : List Val := [⟨4, 0, ⟨#[120]⟩, 0, 0, 0⟩]
def valsI (n : Int) : List Val := if n.tmod 3 = 0 then V0 else if n.tmod 3 = 1 then V1 else V2
theorem RetV.lit {w w1 : World} (l : List Val) (cs : Array Value) (B n : Nat) (hB : w1.heap.size = B) (hn : l.length = n) (hl : n ≤ 1000000000) (hc : cs.toList = l.flatMap valE) (hx : Ext w w1) :
    RetV w l (.returned (.slice (some ⟨B, 0, none⟩) n n)) (w1.alloc (.cells cs 78)) := by
  subst hB hn
  refine ⟨_, _, rfl, hx.alloc _, RF.of_own (base := w.heap.size) (e := 78) valE_len ?_ (fun _ h => h)⟩
  rw [← hc]
  exact World.ownsRow_lit w1 cs l.length hx.size (by unfold maxLen; omega) (by rw [← Array.length_toList, hc, flat_len valE_len])
theorem values_any (n : Int) (w : World) : Calls Try.prog 9 #[.int .i64 n] w (RetV w (valsI n)) := by
  have HT := Lib.hid (fun b w1 => truI_any b w1)
  unfold valsI
  by_cases h0 : n.tmod 3 = 0
  · rw [if_pos h0]
    have HL := Lib.hid (fun w1 (hx : Ext w w1) => RetV.lit (w := w) (w1 := w1) V0 #[.int .i64 1, .int .i64 0, .string ⟨#[]⟩, .int .i64 0, .int .i64 0, .int .i64 0] _ 1 rfl rfl (by omega) rfl hx)
    have h0' : (n.tmod 3 == 0) = true := by simpa using h0
    generalize V0 = V at *
    clear h0
    go_enter Try.func9, Try.ntmps9
    go_wp2_with fail
    refine (HT.out _ _).mono ?_
    rintro e w1 ⟨rfl, x1⟩
    simp only [truI]
    go_wp2_with fail
    go_ret
    exact HL.out _ x1
  · rw [if_neg h0]
    have h0' : (n.tmod 3 == 0) = false := by simpa using h0
    by_cases h1 : n.tmod 3 = 1
    · rw [if_pos h1]
      have HL := Lib.hid (fun w1 (hx : Ext w w1) => RetV.lit (w := w) (w1 := w1) V1 #[.int .i64 1, .int .i64 1, .string ⟨#[]⟩, .int .i64 0, .int .i64 0, .int .i64 0, .int .i64 2, .int .i64 5, .string ⟨#[]⟩, .int .i64 0, .int .i64 0, .int .i64 0] _ 2 rfl rfl (by omega) rfl hx)
      have h1' : (n.tmod 3 == 1) = true := by simpa using h1
      generalize V1 = V at *
      clear h0 h1
      go_enter Try.func9, Try.ntmps9
      go_wp2_with fail
      refine (HT.out _ _).mono ?_
      rintro e w1 ⟨rfl, x1⟩
      simp only [truI]
      go_wp2_with fail
      go_ret
      exact HL.out _ x1
    · rw [if_neg h1]
      have HL := Lib.hid (fun w1 (hx : Ext w w1) => RetV.lit (w := w) (w1 := w1) V2 #[.int .i64 4, .int .i64 0, .string ⟨#[120]⟩, .int .i64 0, .int .i64 0, .int .i64 0] _ 1 rfl rfl (by omega) rfl hx)
      have h1' : (n.tmod 3 == 1) = false := by simpa using h1
      generalize V2 = V at *
      clear h0 h1
      go_enter Try.func9, Try.ntmps9
      go_wp2_with fail
      go_ret
      exact HL.out _ (Ext.refl _)
/-- A publisher that has not sent anything. -/
def newS (p f m r : Int) : PSt := ⟨p, f, m, r, false, 0, 0, 0, 0, 0, 0, 0, []⟩
set_option maxRecDepth 100000 in
theorem new_any (p f m r : Int) (w : World) (h1 : 0 ≤ p) (h2 : p ≤ 999) (h3 : 1 ≤ f) (h4 : f ≤ 100) (h5 : f ≤ m) (h6 : m ≤ 1000) (h7 : 0 ≤ r) (h8 : r ≤ 4294967295) :
    Calls Try.prog 6 #[.int .i64 p, .int .i64 f, .int .i64 m, .int .i64 r] w fun e w' => e = .returned (.tuple #[pubA (newS p f m r) (.slice none 0 0), .int .i64 0]) ∧ Ext w w' := by
  go_enter Try.func6, Try.ntmps6
  go_wp2
  exact bodyPost_ret (v := .tuple #[.agg #[.int .i64 p, .int .i64 f, .int .i64 m, .int .i64 r, .bool false, .int .i64 0, .int .i64 0, .int .i64 0, .int .i64 0, .int .i64 0, .int .i64 0, .int .i64 0, .slice none 0 0], .int .i64 0]) (by simp [results, Try.results6, go_sem]) rfl ⟨rfl, (Ext.refl _).alloc _⟩
def fst13 (x : Int) : Int := 1 + x % 100
def max13 (x y : Int) : Int := fst13 x + y % (1001 - fst13 x)
theorem made_le (x y : Int) : 1 ≤ fst13 x ∧ fst13 x ≤ 100 ∧ fst13 x ≤ max13 x y ∧ max13 x y ≤ 1000 := by
  unfold max13
  have h1 : 1 ≤ fst13 x ∧ fst13 x ≤ 100 := by unfold fst13; omega
  have h2 := Int.emod_nonneg y (show 1001 - fst13 x ≠ 0 by omega)
  have h3 := Int.emod_lt_of_pos y (show 0 < 1001 - fst13 x by omega)
  omega
end Go.Proofs.Ytimnepfdpehdmaa

namespace Go.Proofs.Ytimnepfdpehdmaa

/-- A publisher with fine settings after at most N messages. -/
structure Good (p r N : Int) (s : PSt) : Prop where
  pub : s.pub = p
  rev : s.rev = r
  f1 : 1 ≤ s.first
  f2 : s.first ≤ s.max
  f3 : s.max ≤ 1000
  st : stErr s.sec s.frac s.qual = 0
  ve : vErr s.vals = 0
  vl : s.vals.length ≤ 24
  off : s.started = false → s.state = 0 ∧ s.seq = 0 ∧ s.since = 0 ∧ s.gap = 0
  on : s.started = true → 1 ≤ s.state ∧ s.state ≤ N ∧ 0 ≤ s.seq ∧ s.seq ≤ N ∧ 0 ≤ s.since ∧ s.since < s.gap ∧ s.gap ≤ s.max
theorem Good.new {p r f m : Int} (h1 : 1 ≤ f) (h2 : f ≤ m) (h3 : m ≤ 1000) : Good p r 0 ⟨p, f, m, r, false, 0, 0, 0, 0, 0, 0, 0, []⟩ :=
  ⟨rfl, rfl, h1, h2, h3, rfl, rfl, by simp, fun _ => ⟨rfl, rfl, rfl, rfl⟩, fun h => by cases h⟩
theorem Good.bnd {p r N : Int} {s : PSt} (h : Good p r N s) : 0 ≤ s.gap ∧ s.gap ≤ 1000 ∧ 0 ≤ s.since ∧ s.since ≤ 1000 := by
  have := h.f3
  cases hs : s.started
  · obtain ⟨_, _, h3, h4⟩ := h.off hs; omega
  · have := h.on hs; omega
theorem bnd_in {n : Int} (h1 : 0 ≤ n) (h2 : n ≤ 1000) : bnd n = n := by unfold bnd; omega
theorem cur_ok {p r N : Int} {s : PSt} (hp : 0 ≤ p ∧ p ≤ 999) (hr : 0 ≤ r ∧ r ≤ 4294967295) (hN : N ≤ 4294967295) (h : Good p r N s) (hs : s.started = true) : chkM (curS s) = 0 := by
  obtain ⟨h1, h2, h3, h4, h5, h6, h7⟩ := h.on hs
  have f3 := h.f3
  have e1 := h.pub
  have e2 := h.rev
  have hb := bnd_in (n := s.gap) (by omega) (by omega)
  unfold chkM curS
  simp only [hb]
  rw [if_neg (by omega), if_neg (by omega), if_neg (by rw [h.st]; simp), if_neg (by have := h.vl; omega)]
  exact h.ve
theorem due_change {s : PSt} {l : List Val} (h : dueS s l = 1) : s.started = false ∨ l ≠ s.vals := by
  unfold dueS at h
  split at h
  · assumption
  · split at h <;> simp at h
theorem due_other {s : PSt} {l : List Val} (h : dueS s l ≠ 1) : s.started = true ∧ l = s.vals := by
  unfold dueS at h
  split at h
  · exact absurd rfl h
  · rename_i hh
    constructor
    · cases hs : s.started
      · exact absurd (.inl hs) hh
      · rfl
    · by_cases hl : l = s.vals
      · exact hl
      · exact absurd (.inr hl) hh
theorem due_two {s : PSt} {l : List Val} (h : s.started = true) (hl : l = s.vals) : dueS s l = if s.since + 1 = s.gap then 2 else 0 := by
  unfold dueS
  rw [if_neg (by intro hh; rcases hh with hh | hh; · rw [h] at hh; cases hh
                 · exact hh hl)]
section
variable {p r N : Int} {s : PSt} {l : List Val} {a b c : Int}
theorem step_change (hp : 0 ≤ p ∧ p ≤ 999) (hr : 0 ≤ r ∧ r ≤ 4294967295) (hN : 0 ≤ N ∧ N ≤ 4294967290) (h : Good p r N s) (ht : stErr a b c = 0) (hv : vErr l = 0) (hl : l.length ≤ 24) (hd : dueS s l = 1) :
    stepS s l a b c = (⟨s.pub, s.first, s.max, s.rev, true, s.state + 1, 0, 0, s.first, a, b, c, l⟩, [⟨s.pub, 3 * s.first + 1, a, b, c, s.state + 1, 0, false, s.rev, l⟩]) ∧ Good p r (N + 1) ⟨s.pub, s.first, s.max, s.rev, true, s.state + 1, 0, 0, s.first, a, b, c, l⟩ := by
  have hst : 0 ≤ s.state ∧ s.state ≤ N := by
    cases hs : s.started
    · have := h.off hs; omega
    · have := h.on hs; omega
  have e : changeS s l a b c = ⟨s.pub, s.first, s.max, s.rev, true, s.state + 1, 0, 0, s.first, a, b, c, l⟩ := by
    unfold changeS
    cases hs : s.started
    · rw [if_neg (by simp), (h.off hs).1]; rfl
    · rw [if_pos ⟨rfl, by omega⟩]
  have f1 := h.f1
  have f2 := h.f2
  have f3 := h.f3
  have g : Good p r (N + 1) ⟨s.pub, s.first, s.max, s.rev, true, s.state + 1, 0, 0, s.first, a, b, c, l⟩ :=
    ⟨h.pub, h.rev, h.f1, h.f2, h.f3, ht, hv, hl, (fun h => by cases h), fun _ => (by simp only; omega)⟩
  refine ⟨?_, g⟩
  unfold stepS
  rw [if_neg (by omega), if_pos hd, e]
  unfold sendS
  rw [if_pos (cur_ok hp hr (by omega) g rfl)]
  unfold curS
  simp only [bnd_in (n := s.first) (by omega) (by omega)]
theorem step_repeat (hp : 0 ≤ p ∧ p ≤ 999) (hr : 0 ≤ r ∧ r ≤ 4294967295) (hN : 0 ≤ N ∧ N ≤ 4294967290) (h : Good p r N s) (hd : dueS s l = 2) :
    stepS s l a b c = ({ s with seq := s.seq + 1, gap := min (2 * s.gap) s.max, since := 0 }, [⟨s.pub, 3 * (min (2 * s.gap) s.max) + 1, s.sec, s.frac, s.qual, s.state, s.seq + 1, false, s.rev, s.vals⟩]) ∧ Good p r (N + 1) { s with seq := s.seq + 1, gap := min (2 * s.gap) s.max, since := 0 } := by
  have hon := (due_other (s := s) (l := l) (by omega)).1
  have hh := h.on hon
  have f1 := h.f1
  have f2 := h.f2
  have f3 := h.f3
  have hb := bnd_in (n := s.gap) (by omega) (by omega)
  have e : repeatS s = { s with seq := s.seq + 1, gap := min (2 * s.gap) s.max, since := 0 } := by
    unfold repeatS
    rw [if_pos (by omega), hb]
  have g : Good p r (N + 1) { s with seq := s.seq + 1, gap := min (2 * s.gap) s.max, since := 0 } :=
    ⟨h.pub, h.rev, h.f1, h.f2, h.f3, h.st, h.ve, h.vl, (fun h => by simp only at h; rw [hon] at h; cases h), fun _ => (by simp only; omega)⟩
  refine ⟨?_, g⟩
  unfold stepS
  rw [if_neg (by omega), if_neg (by omega), e]
  unfold sendS
  rw [if_pos (cur_ok hp hr (by omega) g hon)]
  unfold curS
  simp only [bnd_in (n := min (2 * s.gap) s.max) (by omega) (by omega)]
theorem step_still (h : Good p r N s) (hd : dueS s l = 0) : stepS s l a b c = ({ s with since := s.since + 1 }, []) ∧ Good p r (N + 1) { s with since := s.since + 1 } := by
  obtain ⟨hon, hl⟩ := due_other (s := s) (l := l) (by omega)
  have hh := h.on hon
  have h2 := due_two hon hl
  rw [hd] at h2
  have h3 : s.since + 1 ≠ s.gap := by
    intro e
    rw [if_pos e] at h2
    cases h2
  refine ⟨by unfold stepS; rw [if_pos hd], ⟨h.pub, h.rev, h.f1, h.f2, h.f3, h.st, h.ve, h.vl, (fun h => by simp only at h; rw [hon] at h; cases h), fun _ => (by simp only; omega)⟩⟩
end
end Go.Proofs.Ytimnepfdpehdmaa

namespace Go.Proofs.Ytimnepfdpehdmaa
open Go.RowKit
theorem msgRep.ext {V : Nat → Prop} {w w' : World} {m : Msg} {cs : List Value} (h : msgRep V w m cs) (he : Ext w w') : msgRep V w' m cs := by
  obtain ⟨a, c, e, hr⟩ := h
  exact ⟨a, c, e, hr.ext he⟩
theorem msgRep.agree {V : Nat → Prop} {w w' : World} {m : Msg} {cs : List Value} (h : msgRep V w m cs) (he : Agree V w w') : msgRep V w' m cs := by
  obtain ⟨a, c, e, hr⟩ := h
  exact ⟨a, c, e, hr.agree he⟩
/-- What holds behind 't, m := publisher.Step(s, ..)': t lies in block tb, s as before in block B. -/
def Aft (w wx : World) (B tb : Nat) (S : Array Value) (n : PSt) (ms : List Msg) (a5 : Option Addr) (c5 : Nat) (a6 : Option Addr) (c6 : Nat) : Prop :=
  Bk wx tb 29 (pubC n (.slice a5 n.vals.length c5)) ∧ Bk wx B 29 S ∧ tb ≠ B ∧ RF (· = B) 6 valE wx (.slice a5 n.vals.length c5) n.vals ∧ RS Any 10 (msgRep Any) wx (.slice a6 ms.length c6) ms ∧ Ext w wx
theorem msgRep.any {V : Nat → Prop} {w : World} {m : Msg} {cs : List Value} (h : msgRep V w m cs) : msgRep Any w m cs := by
  obtain ⟨a, c, e, hr⟩ := h
  exact ⟨a, c, e, hr.weak (by omega) (fun _ _ h => h.elim)⟩
section
variable {w W w5 : World} {B tb : Nat} {S Z : Array Value} {n : PSt} {ms : List Msg} {a5 a6 : Option Addr} {c5 c6 : Nat}
theorem aft_put (hE : Ext w W) (x5 : Ext W w5) (hS : Bk W B 29 S) (hT : Bk W tb 29 Z) (hz : Z.size = 13) (hne : tb ≠ B) (hle : w.heap.size ≤ tb)
    (r5 : RF (Old W) 6 valE w5 (.slice a5 n.vals.length c5) n.vals) (m5 : RS (Old W) 10 (msgRep (Old W)) w5 (.slice a6 ms.length c6) ms) : Aft w (put w5 tb 0 (pubC n (.slice a5 n.vals.length c5)).toList) B tb S n ms a5 c5 a6 c6 :=
  ⟨put_all (hT.ext x5) (by rw [hz]; rfl), put_other hne _ 0 _ (hS.ext x5), hne, (r5.agree (agree_put (V := Old W) hT.lt _ 0 _)).weak (by omega) (fun g _ hg => by rw [hg]; exact hS.lt),
    RS.weak (RS.agree m5 (agree_put (V := Old W) hT.lt _ 0 _) (fun _ _ _ hm => msgRep.agree hm (agree_put (V := Old W) hT.lt _ 0 _))) (by omega) (fun _ _ h => h.elim) (fun _ _ _ hm => msgRep.any hm), put_ext hle _ 0 _ (hE.trans x5)⟩
theorem aft_new (hE : Ext w W) (x5 : Ext W w5) (hS : Bk W B 29 S)
    (r5 : RF (Old W) 6 valE w5 (.slice a5 n.vals.length c5) n.vals) (m5 : RS (Old W) 10 (msgRep (Old W)) w5 (.slice a6 ms.length c6) ms) : Aft w (w5.alloc (.cells (pubC n (.slice a5 n.vals.length c5)) 29)) B w5.heap.size S n ms a5 c5 a6 c6 :=
  ⟨Bk.new _ _ _ _ rfl, (hS.ext x5).alloc _, (by have := (hS.ext x5).lt; omega), (r5.ext ((Ext.refl _).alloc _)).weak (by omega) (fun g _ hg => by rw [hg]; exact hS.lt),
    RS.weak (RS.agree m5 (((Ext.refl w5).alloc _).agree _) (fun _ _ _ hm => msgRep.ext hm ((Ext.refl _).alloc _))) (by omega) (fun _ _ h => h.elim) (fun _ _ _ hm => msgRep.any hm), (hE.trans x5).alloc _⟩
theorem Aft.drew {wx : World} (h : Aft w wx B tb S n ms a5 c5 a6 c6) : Aft w wx.drew B tb S n ms a5 c5 a6 c6 :=
  ⟨h.1.drew, h.2.1.drew, h.2.2.1, h.2.2.2.1.ext (Ext.refl _).drew, RS.agree h.2.2.2.2.1 ((Ext.refl wx).drew.agree _) (fun _ _ _ hm => msgRep.ext hm (Ext.refl _).drew), h.2.2.2.2.2.drew⟩
end
theorem msg_get {V : Nat → Prop} {w : World} {v : Value} {m : Msg} (h : RS V 10 (msgRep V) w v [m]) : ∃ b off c a' c', v = .slice (some ⟨b, off, none⟩) 1 c ∧ ¬ V b ∧
    w.cell? ⟨b, off, none⟩ = some (.int .i64 m.pub) ∧ w.cell? ⟨b, off + 1, none⟩ = some (.int .i64 m.ttl) ∧ w.cell? ⟨b, off + 2, none⟩ = some (.int .i64 m.sec) ∧ w.cell? ⟨b, off + 3, none⟩ = some (.int .i64 m.frac) ∧ w.cell? ⟨b, off + 4, none⟩ = some (.int .i64 m.qual) ∧
    w.cell? ⟨b, off + 5, none⟩ = some (.int .i64 m.state) ∧ w.cell? ⟨b, off + 6, none⟩ = some (.int .i64 m.seq) ∧ w.cell? ⟨b, off + 7, none⟩ = some (.bool m.test) ∧ w.cell? ⟨b, off + 8, none⟩ = some (.int .i64 m.rev) ∧ w.cell? ⟨b, off + 9, none⟩ = some (.slice a' m.vals.length c') ∧
    RF V 6 valE w (.slice a' m.vals.length c') m.vals := by
  obtain ⟨b, off, c, cs, hv, _, hV, _, ⟨a', c', rfl, hr⟩, hc⟩ := h.at_ (i := 0) (by simp)
  simp only [Nat.zero_mul, Nat.add_zero] at hc
  exact ⟨b, off, c, a', c', hv, hV, hc 0 _ rfl, hc 1 _ rfl, hc 2 _ rfl, hc 3 _ rfl, hc 4 _ rfl, hc 5 _ rfl, hc 6 _ rfl, hc 7 _ rfl, hc 8 _ rfl, hc 9 _ rfl, hr⟩
end Go.Proofs.Ytimnepfdpehdmaa
