/- Publishers and messages as plain data: layers 12 and 13. -/
import Derived.Test.YtimnepfdpehdmaaTA
import Derived.Test.YtimnepfdpehdmaaChecked
import Derived.Laws.StructEq
import Derived.Lib.SliceRun
import Derived.Deep.QuietTactic
import Derived.BigQuiet
namespace Go.Proofs.Ytimnepfdpehdmaa
open Go.RowKit

structure PSt where
  pub : Int
  first : Int
  max : Int
  rev : Int
  started : Bool
  state : Int
  seq : Int
  since : Int
  gap : Int
  sec : Int
  frac : Int
  qual : Int
  vals : List Val
deriving DecidableEq
structure Msg where
  pub : Int
  ttl : Int
  sec : Int
  frac : Int
  qual : Int
  state : Int
  seq : Int
  test : Bool
  rev : Int
  vals : List Val
deriving DecidableEq
/-- The first error of values. -/
def vErr : List Val → Int
  | [] => 0
  | v :: l => if chk v = 0 then vErr l else chk v
/-- The error of a message. -/
def chkM (m : Msg) : Int :=
  if m.pub < 0 ∨ 999 < m.pub ∨ m.ttl < 1 ∨ 65535 < m.ttl then 2
  else if m.state < 1 ∨ 4294967295 < m.state ∨ m.seq < 0 ∨ 4294967295 < m.seq ∨ m.rev < 0 ∨ 4294967295 < m.rev then 2
  else if stErr m.sec m.frac m.qual ≠ 0 then stErr m.sec m.frac m.qual
  else if 24 < m.vals.length then 3
  else vErr m.vals
def bnd (n : Int) : Int := min (max n (-1099511627776)) 1099511627776
def curS (s : PSt) : Msg := { pub := s.pub, ttl := 3 * bnd s.gap + 1, sec := s.sec, frac := s.frac, qual := s.qual, state := s.state, seq := s.seq, test := false, rev := s.rev, vals := s.vals }
/-- What is due: 0 quiet, 1 change, 2 repeat. -/
def dueS (s : PSt) (l : List Val) : Int := if s.started = false ∨ l ≠ s.vals then 1 else if s.since + 1 = s.gap then 2 else 0
def changeS (s : PSt) (l : List Val) (a b c : Int) : PSt :=
  { s with started := true, state := if s.started = true ∧ s.state ≠ 4294967295 then s.state + 1 else 1, seq := 0, gap := s.first, sec := a, frac := b, qual := c, vals := l, since := 0 }
def repeatS (s : PSt) : PSt := { s with seq := if s.seq ≠ 4294967295 then s.seq + 1 else 1, gap := min (2 * bnd s.gap) s.max, since := 0 }
def sendS (s t : PSt) : PSt × List Msg := if chkM (curS t) = 0 then (t, [curS t]) else (s, [])
def stepS (s : PSt) (l : List Val) (a b c : Int) : PSt × List Msg :=
  if dueS s l = 0 then ({ s with since := s.since + 1 }, []) else if dueS s l = 1 then sendS s (changeS s l a b c) else sendS s (repeatS s)
end Go.Proofs.Ytimnepfdpehdmaa

namespace Go.Proofs.Ytimnepfdpehdmaa
open Go.RowKit
attribute [local go_sem ↓] Go.wp_at_zero Go.wp_at_succ

/-- The content of a value of one of the kinds. -/
def contV (v : Val) : Value :=
  if v.kind = 1 then .iface 148 (.int .i64 v.n) else if v.kind = 2 then .iface 149 (.int .i64 v.n) else if v.kind = 3 then .iface 150 (.string v.s)
  else if v.kind = 4 then .iface 151 (.string v.s) else .iface 152 (.agg #[.int .i64 v.sec, .int .i64 v.frac, .int .i64 v.qual])
def isKind (v : Val) : Bool := decide (1 ≤ v.kind) && decide (v.kind ≤ 5)
theorem contentOf_no (v : Val) (w : World) (hk : isKind v = false) : Calls Try.prog 54 #[valA v] w fun e w' => e = .returned (.tuple #[.nilIface, .bool false]) ∧ Ext w w' := by
  obtain ⟨k, n, s, a, b, c⟩ := v
  simp only [isKind, Bool.and_eq_false_iff, decide_eq_false_iff_not] at hk
  have h1 : (k == 1) = false := by simp only [beq_eq_false_iff_ne, ne_eq]; omega
  have h2 : (k == 2) = false := by simp only [beq_eq_false_iff_ne, ne_eq]; omega
  have h3 : (k == 3) = false := by simp only [beq_eq_false_iff_ne, ne_eq]; omega
  have h4 : (k == 4) = false := by simp only [beq_eq_false_iff_ne, ne_eq]; omega
  have h5 : (k == 5) = false := by simp only [beq_eq_false_iff_ne, ne_eq]; omega
  clear hk
  go_enter Try.func54, Try.ntmps54
  go_wp2
  go_ret2
  exact ⟨rfl, (Ext.refl _).alloc _⟩
theorem contentOf_yes (v : Val) (w : World) (hk : isKind v = true) : Calls Try.prog 54 #[valA v] w fun e w' => e = .returned (.tuple #[contV v, .bool true]) ∧ Ext w w' := by
  obtain ⟨k, n, s, a, b, c⟩ := v
  simp only [isKind, Bool.and_eq_true, decide_eq_true_eq] at hk
  obtain rfl | rfl | rfl | rfl | rfl : k = 1 ∨ k = 2 ∨ k = 3 ∨ k = 4 ∨ k = 5 := by omega
  all_goals
    simp only [contV]
    clear hk
    go_enter Try.func54, Try.ntmps54
    go_wp2
    go_ret2
    exact ⟨rfl, (Ext.refl _).alloc _⟩
/-- The value that a content gives back. -/
def backV (v : Val) : Val :=
  if v.kind = 1 ∨ v.kind = 2 then ⟨v.kind, v.n, ⟨#[]⟩, 0, 0, 0⟩ else if v.kind = 3 ∨ v.kind = 4 then ⟨v.kind, 0, v.s, 0, 0, 0⟩ else ⟨v.kind, 0, ⟨#[]⟩, v.sec, v.frac, v.qual⟩
@[local go_sem] theorem ta_truth_truth (x : Value) (w : World) : (Instr.typeAssert (.iface 148 x) 131 148 true).run Try.prog w = .ok (.tuple #[x, .bool true]) w := by kernel_rfl
@[local go_sem] theorem ta_whole_truth (x : Value) (w : World) : (Instr.typeAssert (.iface 149 x) 131 148 true).run Try.prog w = .ok (.tuple #[.int .i64 0, .bool false]) w := by kernel_rfl
@[local go_sem] theorem ta_whole_whole (x : Value) (w : World) : (Instr.typeAssert (.iface 149 x) 131 149 true).run Try.prog w = .ok (.tuple #[x, .bool true]) w := by kernel_rfl
@[local go_sem] theorem ta_bits_truth (x : Value) (w : World) : (Instr.typeAssert (.iface 150 x) 131 148 true).run Try.prog w = .ok (.tuple #[.int .i64 0, .bool false]) w := by kernel_rfl
@[local go_sem] theorem ta_bits_whole (x : Value) (w : World) : (Instr.typeAssert (.iface 150 x) 131 149 true).run Try.prog w = .ok (.tuple #[.int .i64 0, .bool false]) w := by kernel_rfl
@[local go_sem] theorem ta_bits_bits (x : Value) (w : World) : (Instr.typeAssert (.iface 150 x) 131 150 true).run Try.prog w = .ok (.tuple #[x, .bool true]) w := by kernel_rfl
@[local go_sem] theorem ta_text_truth (x : Value) (w : World) : (Instr.typeAssert (.iface 151 x) 131 148 true).run Try.prog w = .ok (.tuple #[.int .i64 0, .bool false]) w := by kernel_rfl
@[local go_sem] theorem ta_text_whole (x : Value) (w : World) : (Instr.typeAssert (.iface 151 x) 131 149 true).run Try.prog w = .ok (.tuple #[.int .i64 0, .bool false]) w := by kernel_rfl
@[local go_sem] theorem ta_text_bits (x : Value) (w : World) : (Instr.typeAssert (.iface 151 x) 131 150 true).run Try.prog w = .ok (.tuple #[.string ⟨#[]⟩, .bool false]) w := by kernel_rfl
@[local go_sem] theorem ta_text_text (x : Value) (w : World) : (Instr.typeAssert (.iface 151 x) 131 151 true).run Try.prog w = .ok (.tuple #[x, .bool true]) w := by kernel_rfl
@[local go_sem] theorem ta_moment_truth (x : Value) (w : World) : (Instr.typeAssert (.iface 152 x) 131 148 true).run Try.prog w = .ok (.tuple #[.int .i64 0, .bool false]) w := by kernel_rfl
@[local go_sem] theorem ta_moment_whole (x : Value) (w : World) : (Instr.typeAssert (.iface 152 x) 131 149 true).run Try.prog w = .ok (.tuple #[.int .i64 0, .bool false]) w := by kernel_rfl
@[local go_sem] theorem ta_moment_bits (x : Value) (w : World) : (Instr.typeAssert (.iface 152 x) 131 150 true).run Try.prog w = .ok (.tuple #[.string ⟨#[]⟩, .bool false]) w := by kernel_rfl
@[local go_sem] theorem ta_moment_text (x : Value) (w : World) : (Instr.typeAssert (.iface 152 x) 131 151 true).run Try.prog w = .ok (.tuple #[.string ⟨#[]⟩, .bool false]) w := by kernel_rfl
@[local go_sem] theorem ta_moment_moment (x : Value) (w : World) : (Instr.typeAssert (.iface 152 x) 131 152 true).run Try.prog w = .ok (.tuple #[x, .bool true]) w := by kernel_rfl
set_option maxRecDepth 100000 in
theorem valueOf_yes (v : Val) (w : World) (hk : isKind v = true) : Calls Try.prog 61 #[contV v] w fun e w' => e = .returned (valA (backV v)) ∧ Ext w w' := by
  obtain ⟨k, n, s, a, b, c⟩ := v
  simp only [isKind, Bool.and_eq_true, decide_eq_true_eq] at hk
  obtain rfl | rfl | rfl | rfl | rfl : k = 1 ∨ k = 2 ∨ k = 3 ∨ k = 4 ∨ k = 5 := by omega
  all_goals
    simp only [contV, backV]
    clear hk
    go_enter Try.func61, Try.ntmps61
    go_wp2
    first
      | exact bodyPost_ret (v := .agg #[.int .i64 1, .int .i64 n, .string ⟨#[]⟩, .int .i64 0, .int .i64 0, .int .i64 0]) (by simp [results, Try.results61, go_sem]) rfl ⟨rfl, (Ext.refl _).alloc _⟩
      | exact bodyPost_ret (v := .agg #[.int .i64 2, .int .i64 n, .string ⟨#[]⟩, .int .i64 0, .int .i64 0, .int .i64 0]) (by simp [results, Try.results61, go_sem]) rfl ⟨rfl, (Ext.refl _).alloc _⟩
      | exact bodyPost_ret (v := .agg #[.int .i64 3, .int .i64 0, .string s, .int .i64 0, .int .i64 0, .int .i64 0]) (by simp [results, Try.results61, go_sem]) rfl ⟨rfl, (Ext.refl _).alloc _⟩
      | exact bodyPost_ret (v := .agg #[.int .i64 4, .int .i64 0, .string s, .int .i64 0, .int .i64 0, .int .i64 0]) (by simp [results, Try.results61, go_sem]) rfl ⟨rfl, (Ext.refl _).alloc _⟩
      | exact bodyPost_ret (v := .agg #[.int .i64 5, .int .i64 0, .string ⟨#[]⟩, .int .i64 a, .int .i64 b, .int .i64 c]) (by simp [results, Try.results61, go_sem]) rfl ⟨rfl, ((Ext.refl _).alloc _).alloc _⟩

/-! ### The five checks -/
theorem truthCheck_any (n : Int) (w : World) : Calls Try.prog 96 #[.int .i64 n] w fun e w' => e = .returned (.int .i64 (if n = 0 ∨ n = 1 then 0 else 2)) ∧ Ext w w' := by
  by_cases h0 : n = 0
  · subst h0
    go_enter Try.func96, Try.ntmps96
    go_wp2
    go_ret
    exact ⟨rfl, Ext.refl _⟩
  · by_cases h1 : n = 1
    · subst h1
      go_enter Try.func96, Try.ntmps96
      go_wp2
      go_ret
      exact ⟨rfl, Ext.refl _⟩
    · rw [if_neg (by omega)]
      have e0 : (n == 0) = false := by simpa using h0
      have e1 : (n == 1) = false := by simpa using h1
      have f0 : (n != 0) = true := by simpa using h0
      have f1 : (n != 1) = true := by simpa using h1
      clear h0 h1
      go_enter Try.func96, Try.ntmps96
      go_wp2
      go_ret
      exact ⟨rfl, Ext.refl _⟩
theorem wholeCheck_any (n : Int) (w : World) : Calls Try.prog 99 #[.int .i64 n] w fun e w' => e = .returned (.int .i64 0) ∧ Ext w w' := by
  go_enter Try.func99, Try.ntmps99
  go_wp2
  go_ret
  exact ⟨rfl, Ext.refl _⟩
theorem textCheck_any (s : ByteArray) (w : World) : Calls Try.prog 106 #[.string s] w fun e w' => e = .returned (.int .i64 (if 64 < s.size then 4 else 0)) ∧ Ext w w' := by
  by_cases h : 64 < s.size
  · rw [if_pos h]
    have h2 : (64 : Int) < s.size := by omega
    go_enter Try.func106, Try.ntmps106
    go_wp2
    go_ret
    exact ⟨rfl, Ext.refl _⟩
  · rw [if_neg h]
    have h2 : ¬ (64 : Int) < s.size := by omega
    go_enter Try.func106, Try.ntmps106
    go_wp2
    go_ret
    exact ⟨rfl, Ext.refl _⟩
set_option maxRecDepth 100000 in
theorem momentCheck_any (a b c : Int) (w : World) : Calls Try.prog 109 #[.agg #[.int .i64 a, .int .i64 b, .int .i64 c]] w fun e w' => e = .returned (.int .i64 (stErr a b c)) ∧ Ext w w' := by
  obtain ⟨z, hz⟩ : ∃ z, stErr a b c = z := ⟨_, rfl⟩
  rw [hz]
  unfold stErr at hz
  have HZ := Lib.hid hz
  clear hz
  go_enter Try.func109, Try.ntmps109
  go_wp2
  all_goals
    go_ret
    refine ⟨ret_int ?_, (Ext.refl _).alloc _⟩
    rw [← HZ.out]
    first | rw [if_pos (by omega)] | rw [if_neg (by omega)]
theorem bit_iff (x : UInt8) : (x == 48 || x == 49) = true ↔ (x.toNat : Int) = 48 ∨ (x.toNat : Int) = 49 := by
  have e : ∀ (x y : UInt8), x = y ↔ x.toNat = y.toNat := fun x y => ⟨fun h => by rw [h], fun h => UInt8.toNat_inj.1 h⟩
  simp only [Bool.or_eq_true, beq_iff_eq]
  rw [e, e, show (48 : UInt8).toNat = 48 from rfl, show (49 : UInt8).toNat = 49 from rfl]
  omega
theorem bitB_iff (s : ByteArray) : bitB s = true ↔ ∀ i (hi : i < s.size), (s[i] == 48 || s[i] == 49) = true := by
  unfold bitB
  rw [ByteArray.toList_eq, List.all_eq_true]
  constructor
  · intro h i hi
    exact h _ (Array.getElem_mem_toList (xs := s.data) (i := i) hi)
  · intro h x hx
    obtain ⟨i, hi, rfl⟩ := List.getElem_of_mem hx
    exact h i (by simpa using hi)
set_option maxHeartbeats 1000000 in
theorem bitsCheck_any (s : ByteArray) (w : World) : Calls Try.prog 103 #[.string s] w fun e w' => e = .returned (.int .i64 (bitErr s)) ∧ Ext w w' := by
  unfold bitErr
  by_cases h : 64 < s.size
  · rw [if_pos h]
    have h2 : (64 : Int) < s.size := by omega
    go_enter Try.func103, Try.ntmps103
    go_wp2
    go_ret
    exact ⟨rfl, Ext.refl _⟩
  · rw [if_neg h]
    have h2 : ¬ (64 : Int) < s.size := by omega
    obtain ⟨z, hz⟩ : ∃ z : Int, (if bitB s = true then 0 else 5) = z := ⟨_, rfl⟩
    rw [hz]
    have HZ := Lib.hid hz
    clear hz
    go_enter Try.func103, Try.ntmps103
    go_wp2
    go_loop [2, 9] (fun i j => ∃ k : Nat, k ≤ s.size ∧ j = .int .i64 k ∧ (∀ i (hi : i < s.size), i < k → (s[i] == 48 || s[i] == 49) = true)) (fun _ j => s.size - (intOf j).toNat)
    case atStart => exact ⟨0, Nat.zero_le _, rfl, fun i _ h => by omega⟩
    case round =>
      obtain ⟨k, hk, rfl, hall⟩ := hrel
      have HALL := Lib.hid hall
      clear hall
      by_cases hlt : k < s.size
      · have HB := Lib.hid (bit_iff s[k])
        by_cases h0 : (s[k].toNat : Int) = 48 ∨ (s[k].toNat : Int) = 49
        · have H0 := Lib.hid h0
          rcases h0 with h0 | h0
          all_goals
            go_wp2
            go_round
            case rel => exact ⟨k + 1, by omega, by go_num, fun i hi h => by
              rcases Nat.lt_or_ge i k with h2 | h2
              · exact HALL.out i hi h2
              · obtain rfl : i = k := by omega
                exact HB.out.2 H0.out⟩
            case measure => simp [intOf]; omega
        · have H0 := Lib.hid h0
          have e0 : ((s[k].toNat : Int) == 48) = false := by simp only [beq_eq_false_iff_ne, ne_eq]; omega
          have e1 : ((s[k].toNat : Int) == 49) = false := by simp only [beq_eq_false_iff_ne, ne_eq]; omega
          have f0 : ((s[k].toNat : Int) != 48) = true := by simp only [bne_iff_ne, ne_eq]; omega
          have f1 : ((s[k].toNat : Int) != 49) = true := by simp only [bne_iff_ne, ne_eq]; omega
          clear h0
          go_wp2
          go_ret
          refine ⟨ret_int ?_, Ext.refl _⟩
          rw [← HZ.out, if_neg]
          intro hb
          exact H0.out (HB.out.1 ((bitB_iff s).1 hb k hlt))
      · go_wp2
        go_ret
        refine ⟨ret_int ?_, Ext.refl _⟩
        rw [← HZ.out, if_pos ((bitB_iff s).2 fun i hi => HALL.out i hi (by omega))]

/-! ### Check -/
theorem equal_stamp (a b c a' b' c' : Int) (d : Nat) (w : World) : (Op.equalIn (d + 1 + 1) 26 (.agg #[.int .i64 a, .int .i64 b, .int .i64 c]) (.agg #[.int .i64 a', .int .i64 b', .int .i64 c'])).run Try.prog w = .ok (decide (a = a' ∧ b = b' ∧ c = c')) w := by
  have hS : Try.prog.underlying 26 = some (.struct (Try.prog.fieldsOf 26)) := by kernel_rfl
  have hp : Try.prog.stoodInHeld 26 = false := by kernel_rfl
  rw [run_equalIn_agg w (d + 1) 26 _ _ hS hp]
  clear hS hp
  simp only [Program.fieldsOf, Try.underlying26]
  go_simp
  by_cases h1 : a = a' <;> by_cases h2 : b = b' <;> by_cases h3 : c = c' <;> simp [h1, h2, h3]
theorem equal_val (x y : Val) (d : Nat) (w : World) : (Op.equalIn (d + 1 + 1 + 1) 78 (valA x) (valA y)).run Try.prog w = .ok (decide (x = y)) w := by
  have hS : Try.prog.underlying 78 = some (.struct (Try.prog.fieldsOf 78)) := by kernel_rfl
  have hp : Try.prog.stoodInHeld 78 = false := by kernel_rfl
  rw [run_equalIn_agg w (d + 1 + 1) 78 _ _ hS hp]
  clear hS hp
  obtain ⟨a, b, c, e, f, g⟩ := x
  obtain ⟨a', b', c', e', f', g'⟩ := y
  have hst := equal_stamp e f g e' f' g' d w
  simp only [Program.fieldsOf, Try.underlying78]
  go_simp
  have hc : (c = c') ↔ c.toList = c'.toList := bytes_eq
  by_cases h1 : a = a' <;> by_cases h2 : b = b' <;> by_cases h3 : c.toList = c'.toList <;> by_cases h4 : e = e' <;> by_cases h5 : f = f' <;> by_cases h6 : g = g' <;> simp [h1, h2, hc, h3, h4, h5, h6]
theorem neq_val (x y : Val) (w : World) : (binOp .neq 78 (valA x) (valA y)).run Try.prog w = .ok (.bool (!decide (x = y))) w := by
  rw [run_neq_struct, show (10000 : Nat) = 9997 + 1 + 1 + 1 from rfl, equal_val]
  rfl
theorem eql_val (x y : Val) (w : World) : (binOp .eql 78 (valA x) (valA y)).run Try.prog w = .ok (.bool (decide (x = y))) w := by
  rw [run_eql_struct, show (10000 : Nat) = 9997 + 1 + 1 + 1 from rfl, equal_val]
  rfl
end Go.Proofs.Ytimnepfdpehdmaa

namespace Go.Proofs.Ytimnepfdpehdmaa
open Go.RowKit
attribute [local go_sem ↓] Go.wp_at_zero Go.wp_at_succ

theorem back_eq (v : Val) (hk : isKind v = true) : (backV v = v) ↔ ((v.kind = 1 ∨ v.kind = 2) ∧ (noS v && noT v) = true) ∨ ((v.kind = 3 ∨ v.kind = 4) ∧ (noN v && noT v) = true) ∨ (v.kind = 5 ∧ (noN v && noS v) = true) := by
  obtain ⟨k, n, s, a, b, c⟩ := v
  simp only [isKind, Bool.and_eq_true, decide_eq_true_eq] at hk
  have hs : ((⟨#[]⟩ : ByteArray) = s) ↔ s.toList.isEmpty = true := by
    rw [bytes_eq, ByteArray.toList_eq]
    simp only [List.isEmpty_iff]
    constructor <;> intro h <;> simpa using h.symm
  have hz : ∀ x : Int, (0 = x) ↔ (x = 0) := fun x => ⟨fun h => h.symm, fun h => h.symm⟩
  obtain rfl | rfl | rfl | rfl | rfl : k = 1 ∨ k = 2 ∨ k = 3 ∨ k = 4 ∨ k = 5 := by omega
  all_goals
    simp only [backV, noS, noT, noN]
    simp [hs, hz]
    try omega
theorem contV_1 (v : Val) (h : v.kind = 1) : contV v = .iface 148 (.int .i64 v.n) := by unfold contV; rw [if_pos h]
theorem contV_2 (v : Val) (h : v.kind = 2) : contV v = .iface 149 (.int .i64 v.n) := by unfold contV; rw [if_neg (by omega), if_pos h]
theorem contV_3 (v : Val) (h : v.kind = 3) : contV v = .iface 150 (.string v.s) := by unfold contV; rw [if_neg (by omega), if_neg (by omega), if_pos h]
theorem contV_4 (v : Val) (h : v.kind = 4) : contV v = .iface 151 (.string v.s) := by unfold contV; rw [if_neg (by omega), if_neg (by omega), if_neg (by omega), if_pos h]
theorem contV_5 (v : Val) (h : v.kind = 5) : contV v = .iface 152 (.agg #[.int .i64 v.sec, .int .i64 v.frac, .int .i64 v.qual]) := by unfold contV; rw [if_neg (by omega), if_neg (by omega), if_neg (by omega), if_neg (by omega)]
@[local go_sem] theorem meth_truth (x : Value) (w : World) : (method 278 148 x "substation/dataset.check").run Try.prog w = .ok (96, x) w := by kernel_rfl
@[local go_sem] theorem meth_whole (x : Value) (w : World) : (method 278 149 x "substation/dataset.check").run Try.prog w = .ok (99, x) w := by kernel_rfl
@[local go_sem] theorem meth_bits (x : Value) (w : World) : (method 278 150 x "substation/dataset.check").run Try.prog w = .ok (103, x) w := by kernel_rfl
@[local go_sem] theorem meth_text (x : Value) (w : World) : (method 278 151 x "substation/dataset.check").run Try.prog w = .ok (106, x) w := by kernel_rfl
@[local go_sem] theorem meth_moment (x : Value) (w : World) : (method 278 152 x "substation/dataset.check").run Try.prog w = .ok (109, x) w := by kernel_rfl
def chkIn (v : Val) : Int := if v.kind = 1 then (if v.n = 0 ∨ v.n = 1 then 0 else 2) else if v.kind = 2 then 0 else if v.kind = 3 then bitErr v.s else if v.kind = 4 then (if 64 < v.s.size then 4 else 0) else stErr v.sec v.frac v.qual
theorem chk_of (v : Val) (hk : isKind v = true) : chk v = if decide (backV v = v) = true then chkIn v else 12 := by
  have hb := back_eq v hk
  simp only [isKind, Bool.and_eq_true, decide_eq_true_eq] at hk
  unfold chk chkIn
  obtain h | h | h | h | h : v.kind = 1 ∨ v.kind = 2 ∨ v.kind = 3 ∨ v.kind = 4 ∨ v.kind = 5 := by omega
  all_goals
    simp only [h] at hb ⊢
    simp only [decide_eq_true_eq]
    by_cases h2 : backV v = v
    · rw [if_pos h2]
      have h3 := hb.1 h2
      simp at h3 ⊢
      try simp [h3]
    · rw [if_neg h2]
      have h3 := fun h => h2 (hb.2 h)
      simp at h3 ⊢
      first | (intro h4 h5; rw [h3 h4] at h5; cases h5) | exact h3
set_option maxRecDepth 100000 in
set_option maxHeartbeats 4000000 in
theorem checkV_any (v : Val) (w : World) : Calls Try.prog 36 #[valA v] w fun e w' => e = .returned (.int .i64 (chk v)) ∧ Ext w w' := by
  by_cases hk : isKind v = true
  · have HC := Lib.hid (fun w1 => contentOf_yes v w1 hk)
    have HV := Lib.hid (fun w1 => valueOf_yes v w1 hk)
    have hne := fun w1 => neq_val (backV v) v w1
    rw [chk_of v hk]
    obtain ⟨q, hq⟩ : ∃ q, decide (backV v = v) = q := ⟨_, rfl⟩
    rw [hq] at hne ⊢
    clear hq
    generalize backV v = bv at *
    simp only [isKind, Bool.and_eq_true, decide_eq_true_eq] at hk
    obtain ⟨k, n, s, a, b, c⟩ := v
    obtain ⟨k', n', s', a', b', c'⟩ := bv
    simp only at hk
    obtain ⟨r, hr⟩ : ∃ r, chkIn ⟨k, n, s, a, b, c⟩ = r := ⟨_, rfl⟩
    rw [hr]
    obtain h | h | h | h | h : k = 1 ∨ k = 2 ∨ k = 3 ∨ k = 4 ∨ k = 5 := by omega
    all_goals
      have hr' := hr
      simp [chkIn, h] at hr'
      have HR := Lib.hid hr'
      clear hr hr'
      first | rw [contV_1 _ h] at HC HV | rw [contV_2 _ h] at HC HV | rw [contV_3 _ h] at HC HV | rw [contV_4 _ h] at HC HV | rw [contV_5 _ h] at HC HV
      simp only at HC HV
      clear hk h
      go_enter Try.func36, Try.ntmps36
      go_wp2_with fail
      refine (HC.out _).mono ?_
      rintro e w1 ⟨rfl, x1⟩
      go_wp2_with fail
      have hA := x1
      have g0 := hA.cell (cell_at w #[.int .i64 k, .int .i64 n, .string s, .int .i64 a, .int .i64 b, .int .i64 c] 78 _ 0 _ rfl rfl)
      have g1 := hA.cell (cell_at w #[.int .i64 k, .int .i64 n, .string s, .int .i64 a, .int .i64 b, .int .i64 c] 78 _ 1 _ rfl rfl)
      have g2 := hA.cell (cell_at w #[.int .i64 k, .int .i64 n, .string s, .int .i64 a, .int .i64 b, .int .i64 c] 78 _ 2 _ rfl rfl)
      have g3 := hA.cell (cell_at w #[.int .i64 k, .int .i64 n, .string s, .int .i64 a, .int .i64 b, .int .i64 c] 78 _ 3 _ rfl rfl)
      have g4 := hA.cell (cell_at w #[.int .i64 k, .int .i64 n, .string s, .int .i64 a, .int .i64 b, .int .i64 c] 78 _ 4 _ rfl rfl)
      have g5 := hA.cell (cell_at w #[.int .i64 k, .int .i64 n, .string s, .int .i64 a, .int .i64 b, .int .i64 c] 78 _ 5 _ rfl rfl)
      go_region_held3 (fun w' => w'.cell? ⟨w.heap.size, 0, none⟩ = some (.int .i64 k) ∧ w'.cell? ⟨w.heap.size, 1, none⟩ = some (.int .i64 n) ∧ w'.cell? ⟨w.heap.size, 2, none⟩ = some (.string s) ∧ w'.cell? ⟨w.heap.size, 3, none⟩ = some (.int .i64 a) ∧ w'.cell? ⟨w.heap.size, 4, none⟩ = some (.int .i64 b) ∧ w'.cell? ⟨w.heap.size, 5, none⟩ = some (.int .i64 c))
        (first | exact ⟨g0, g1, g2, g3, g4, g5⟩ | exact ⟨x2.cell (by exact g0), x2.cell (by exact g1), x2.cell (by exact g2), x2.cell (by exact g3), x2.cell (by exact g4), x2.cell (by exact g5)⟩)
        (first | (go_at_call 61; (with_reducible refine (HV.out _).mono ?_); rintro e w2 ⟨rfl, x2⟩))
      all_goals
        cases q
        · go_wp2_with fail
          go_ret
          exact ⟨rfl, (((Ext.refl _).alloc _).trans x1).drew.trans x2⟩
        · go_wp2_with fail
          first
            | refine (truthCheck_any _ _).mono ?_
            | refine (wholeCheck_any _ _).mono ?_
            | refine (bitsCheck_any _ _).mono ?_
            | refine (textCheck_any _ _).mono ?_
            | refine (momentCheck_any _ _ _ _).mono ?_
          rintro e w3 ⟨he, x3⟩
          rw [HR.out] at he
          subst he
          go_wp2_with fail
          go_ret
          exact ⟨rfl, ((((Ext.refl _).alloc _).trans x1).drew.trans x2).trans x3⟩
  · have hk' : isKind v = false := by simpa using hk
    have hz : chk v = 10 := by
      simp only [isKind, Bool.and_eq_true, decide_eq_true_eq] at hk
      unfold chk
      rw [if_neg (by omega), if_neg (by omega), if_neg (by omega), if_neg (by omega), if_neg (by omega)]
    rw [hz]
    have HC := Lib.hid (fun w1 => contentOf_no v w1 hk')
    clear hk hk' hz
    obtain ⟨k, n, s, a, b, c⟩ := v
    go_enter Try.func36, Try.ntmps36
    go_wp2_with fail
    refine (HC.out _).mono ?_
    rintro e w1 ⟨rfl, x1⟩
    go_wp2_with fail
    go_ret
    exact ⟨rfl, ((Ext.refl _).alloc _).trans x1⟩
end Go.Proofs.Ytimnepfdpehdmaa

namespace Go.Proofs.Ytimnepfdpehdmaa
open Go.RowKit
attribute [local go_sem ↓] Go.wp_at_zero Go.wp_at_succ

/-! ### Same -/
set_option maxRecDepth 100000 in
set_option maxHeartbeats 1000000 in
theorem eqVals_any (a b : List Val) (va vb : Value) (w : World) (ha : RF Any 6 valE w va a) (hb : RF Any 6 valE w vb b) :
    Calls Try.prog 33 #[va, vb] w fun e w' => e = .returned (.bool (decide (a = b))) ∧ Ext w w' := by
  obtain ⟨aa, ac, rfl, hc1, hc2⟩ := ha.form
  obtain ⟨ba, bc, rfl, hd1, hd2⟩ := hb.form
  by_cases hl : a.length = b.length
  · have HA := Lib.hid ha
    have HB := Lib.hid hb
    have HE := Lib.hid (list_eq_of a b hl)
    have HN := Lib.hid (list_ne_at a b)
    have HL := Lib.hid hl
    clear ha hb hd1 hd2
    obtain ⟨r, hr⟩ : ∃ r, decide (a = b) = r := ⟨_, rfl⟩
    rw [hr]
    have HR := Lib.hid hr
    clear hr
    rw [← hl]
    generalize hn : a.length = n at *
    have HNN := Lib.hid hn
    unfold maxLen at hc2
    clear hn hl
    go_enter Try.func33, Try.ntmps33
    go_wp2
    go_loopw [13] (fun i wr => ∃ (k : Nat), k ≤ n ∧ i = .int .i64 k ∧ (∀ (i : Nat) x y, a[i]? = some x → b[i]? = some y → i < k → x = y) ∧ Ext w wr) (fun i _ => n - (intOf i).toNat)
    case atStart => exact ⟨0, Nat.zero_le _, rfl, fun i _ _ _ _ h => by omega, Ext.refl _⟩
    case round =>
      obtain ⟨k, hk1, rfl, hall, hx⟩ := hrel
      have HALL := Lib.hid hall
      clear hall
      by_cases hlt : k < n
      · obtain ⟨x, hxk⟩ : ∃ x, a[k]? = some x := ⟨_, List.getElem?_eq_getElem (by rw [HNN.out]; exact hlt)⟩
        obtain ⟨y, hyk⟩ : ∃ y, b[k]? = some y := ⟨_, List.getElem?_eq_getElem (by rw [← HL.out]; exact hlt)⟩
        obtain ⟨b1, o1, c1, hv1, g0, g1, g2, g3, g4, g5⟩ := val_get (HA.out.ext hx) hxk
        obtain ⟨b2, o2, c2, hv2, f0, f1, f2, f3, f4, f5⟩ := val_get (HB.out.ext hx) hyk
        rw [HNN.out] at hv1
        rw [← HL.out] at hv2
        simp only [Value.slice.injEq] at hv1 hv2
        obtain ⟨rfl, -, rfl⟩ := hv1
        obtain ⟨rfl, -, rfl⟩ := hv2
        have hne := fun w1 => neq_val x y w1
        obtain ⟨r, hr'⟩ : ∃ r, decide (x = y) = r := ⟨_, rfl⟩
        rw [hr'] at hne
        have HQ := Lib.hid hr'
        have HXK := Lib.hid hxk
        have HYK := Lib.hid hyk
        clear hr' hxk hyk
        obtain ⟨x1, x2, x3, x4, x5, x6⟩ := x
        obtain ⟨y1, y2, y3, y4, y5, y6⟩ := y
        simp only at *
        have hki : (k : Int) < n := by omega
        cases r
        · go_wp2
          go_quiet (fail)
          go_wp2
          go_ret
          refine ⟨ret_bool ?_, hx.drewN _⟩
          rw [← HR.out]
          exact (decide_eq_false (HN.out k _ _ HXK.out HYK.out (of_decide_eq_false HQ.out))).symm
        · go_wp2
          go_quiet (fail)
          go_wp2
          go_roundw
          case rel => exact ⟨k + 1, by omega, by go_num, fun i x y h1 h2 hi => by
            rcases Nat.lt_or_ge i k with h | h
            · exact HALL.out i x y h1 h2 h
            · have hik : i = k := by omega
              subst hik
              have e1 := HXK.out
              have e2 := HYK.out
              rw [h1] at e1
              rw [h2] at e2
              injection e1 with e1
              injection e2 with e2
              rw [e1, e2]
              exact of_decide_eq_true HQ.out, hx.drewN _⟩
          case measure => simp [intOf]; omega
      · go_wp2
        go_ret
        refine ⟨ret_bool ?_, hx⟩
        rw [← HR.out]
        exact (decide_eq_true (HE.out fun i x y h1 h2 => HALL.out i x y h1 h2 (by have := (List.getElem?_eq_some_iff.1 h1).1; rw [HNN.out] at this; omega))).symm
  · have hl1 : ((a.length : Int) != (b.length : Int)) = true := by simp only [bne_iff_ne, ne_eq]; omega
    have hl2 : ((a.length : Int) == (b.length : Int)) = false := by simp only [beq_eq_false_iff_ne, ne_eq]; omega
    have hz : decide (a = b) = false := by simp only [decide_eq_false_iff_not]; intro h; exact hl (by rw [h])
    rw [hz]
    clear hz
    generalize a.length = n at *
    generalize b.length = m at *
    go_enter Try.func33, Try.ntmps33
    go_wp2
    go_ret
    exact ⟨rfl, Ext.refl _⟩
theorem sameVals_any (a b : List Val) (va vb : Value) (w : World) (ha : RF Any 6 valE w va a) (hb : RF Any 6 valE w vb b) :
    Calls Try.prog 15 #[va, vb] w fun e w' => e = .returned (.bool (decide (a = b))) ∧ Ext w w' := by
  have H := Lib.hid (eqVals_any a b va vb w ha hb)
  obtain ⟨aa, ac, rfl, _, _⟩ := ha.form
  obtain ⟨ba, bc, rfl, _, _⟩ := hb.form
  generalize decide (a = b) = r at *
  generalize a.length = na at *
  generalize b.length = nb at *
  clear ha hb
  go_enter Try.func15, Try.ntmps15
  go_wp2_with (go_at_call 33; refine H.out.mono ?_; rintro e w1 ⟨rfl, hx1⟩)
  go_ret
  exact ⟨rfl, hx1⟩

/-! ### Copies -/
theorem info_val : (Try.prog.info? 78).map (fun i => (i.zero, i.size, i.bytes)) = some (some (.agg #[.int .i64 0, .int .i64 0, .string ⟨#[]⟩, .int .i64 0, .int .i64 0, .int .i64 0]), 6, 56) := by kernel_rfl
/-- It returns values in new memory. -/
def RetV (w : World) (l : List Val) (en : Ending) (w' : World) : Prop := ∃ a c, en = .returned (.slice a l.length c) ∧ Ext w w' ∧ RF (Old w) 6 valE w' (.slice a l.length c) l
@[local go_sem] theorem eql_nil_val (w : World) (a : Option Addr) (n c : Nat) : (binOp .eql 27 (.slice a n c) (.slice none 0 0)).run Try.prog w = .ok (.bool a.isNone) w := Lib.run_eql_slice_nil w _ _ a n c 0 0 Try.underlying27
set_option maxHeartbeats 2000000 in
theorem cloneVals_any {V : Nat → Prop} (l : List Val) (v : Value) (w : World) (h : RF V 6 valE w v l) (hl : l.length ≤ 1000000000) : Calls Try.prog 37 #[v] w (RetV w l) := by
  obtain ⟨i0, hi0, hz0, hz1, hz2⟩ := info_parts info_val
  obtain ⟨a, c, rfl, hc1, hc2⟩ := h.form
  cases a with
  | none =>
    have hb : l = [] := by
      cases l with
      | nil => rfl
      | cons x r =>
        obtain ⟨b, off, c', hv, _⟩ := h.at_ (i := 0) (by simp)
        simp at hv
    subst hb
    clear hc1 hc2 hl
    go_enter Try.func37, Try.ntmps37
    go_wp2
    go_ret
    exact ⟨none, 0, rfl, Ext.refl _, RF.nil _ _ _ _⟩
  | some a =>
    have HSRC := Lib.hid ((h.ext ((Ext.refl w).alloc (.cells #[] 78))).src (by omega) valE_one).2
    have HL0 := Lib.hid (World.ownsRow_lit (base := w.heap.size) (e := 78) (size := 6) w #[] 0 (Nat.le_refl _) (by unfold maxLen; omega) rfl)
    have HO : Hid (∀ (w1 : World) (A1 : Option Addr) (c1 : Nat), w1.ownsRow w.heap.size 78 6 (.slice A1 l.length c1) l.length (l.flatMap valE) → Ext w w1 → RetV w l (.returned (.slice A1 l.length c1)) w1) := fun w1 A1 c1 ho he => ⟨A1, c1, rfl, he, RF.of_own valE_len ho (fun _ h => h)⟩
    generalize l.flatMap valE = ms at *
    generalize l.length = n at *
    clear h hc1 hc2
    go_enter Try.func37, Try.ntmps37
    go_wp2_with (at_builtin; refine wpList_append_src _ rfl (.tmp 5) (.tmp 6) _ rfl w.heap.size 78 i0 _ 6 56 Try.underlying27 hi0 hz0 hz1 hz2 rfl (by omega) _ 0 [] rfl HL0.out _ n c _ rfl HSRC.out (by unfold maxLen; omega) (by omega) (by simp) ?_; intro A1 c1 w1 hown1 hg1 hat1; have hE1 : Ext w w1 := ((Ext.refl w).alloc _).grown hg1 (fun g hg => (HL0.out.lt g hg).1); simp only [Nat.zero_add, List.nil_append] at hown1 hat1)
    go_ret
    exact HO.out w1 A1 c1 hown1 hE1
set_option maxHeartbeats 2000000 in
theorem dupP_any {V : Nat → Prop} (l : List Val) (v : Value) (w : World) (h : RF V 6 valE w v l) (hl : l.length ≤ 1000000000) : Calls Try.prog 18 #[v] w (RetV w l) := by
  obtain ⟨i0, hi0, hz0, hz1, hz2⟩ := info_parts info_val
  obtain ⟨a, c, rfl, hc1, hc2⟩ := h.form
  obtain ⟨cur, hcur⟩ : ∃ cur : Array Value, madeCells (Value.agg #[.int .i64 0, .int .i64 0, .string ⟨#[]⟩, .int .i64 0, .int .i64 0, .int .i64 0]).cells (l.length * 6) = cur := ⟨_, rfl⟩
  have hcs : cur.size = l.length * 6 := by rw [← hcur]; exact size_madeCells _ _
  have HMK : Hid (∀ W : World, (Instr.makeSlice 27 (.int .i64 (l.length : Int)) (.int .i64 (l.length : Int))).run Try.prog W = .ok (.slice (some ⟨W.heap.size, 0, none⟩) l.length l.length) (W.alloc (.cells cur 78))) := fun W => by
    have := run_make (P := Try.prog) W 27 78 i0 _ Try.underlying27 hi0 hz0 .i64 .i64 l.length l.length (by omega) (Int.le_refl _) (by rw [hz2]; omega) (by omega)
    simp only [Int.toNat_natCast, hz1, hcur] at this
    exact this
  have HSRC := Lib.hid (fun (w1 : World) (he : Ext w w1) => ((h.ext he).src (by omega) valE_one).2)
  have HO : Hid (∀ (w1 : World), w1.heap[w.heap.size]? = some (.cells (l.flatMap valE).toArray 78 (0, 0)) → Ext w w1 → RetV w l (.returned (.slice (some ⟨w.heap.size, 0, none⟩) l.length l.length)) w1) := fun w1 hh he => ⟨_, _, rfl, he, RF.of_own (base := w.heap.size) (e := 78) valE_len ⟨flat_len valE_len l, .inr ⟨w.heap.size, l.length, _, rfl, Nat.le_refl _, hh, Nat.le_refl _, by unfold maxLen; omega, by simp [flat_len valE_len l], by rw [List.toList_toArray]; exact List.take_of_length_le (by rw [flat_len valE_len]; exact Nat.le_refl _)⟩⟩ (fun _ h => h)⟩
  have hfl := flat_len valE_len l
  generalize l.flatMap valE = ms at *
  generalize l.length = n at *
  have hmk := HMK.out
  clear h hc1 hc2 hcur HMK
  have HCUR := Lib.hid hcs
  have HFL := Lib.hid hfl
  clear hcs hfl
  have hsz : (Try.prog.info? 78).map (·.size) = some 6 := by rw [hi0]; simp [hz1]
  have HS := Lib.hid (HSRC.out (w.alloc (.cells cur 78)) ((Ext.refl w).alloc _))
  have HG : Hid ((w.alloc (.cells cur 78)).heap[w.heap.size]? = some (.cells cur.toList.toArray 78 (0, 0))) := heap_alloc_new w _
  have HP : Hid (0 < ms.length → ∃ ad, a = some ad ∧ ∀ j v, ms[j]? = some v → (w.alloc (.cells cur 78)).cell? (ad.add j) = some v) := fun hp => by
    cases a with
    | none => have := HS.out.none_ rfl; have := HFL.out; omega
    | some ad => exact ⟨ad, rfl, HS.out.cell ad rfl⟩
  have HSPL := Lib.hid (show splice cur.toList 0 ms = ms by
    have h1 : cur.toList.length ≤ 0 + ms.length := by have := HFL.out; have := HCUR.out; simp; omega
    unfold splice
    rw [List.take_zero, List.nil_append, List.drop_eq_nil_of_le h1, List.append_nil])
  clear HSRC hi0 hz0 hz1 hz2
  go_enter Try.func18, Try.ntmps18
  go_wp2_with (refine wpList_copyK rfl (.tmp 7) (.tmp 8) 27 27 rfl 78 6 Try.underlying27 hsz (by omega) (some ⟨w.heap.size, 0, none⟩) a n n n c rfl rfl w.heap.size 0 cur.toList 78 HG.out ms (by rw [HFL.out]; simp) (fun hp => ⟨rfl, HP.out hp⟩) (by simp [HFL.out, HCUR.out]) HS.out.one ?_; intro w1 hg1 hgr1)
  go_ret
  have h2 := hg1.out
  rw [HSPL.out] at h2
  exact HO.out w1 h2 (((Ext.refl w).alloc _).grown hgr1 (fun g hg => by injection hg with hg; omega))
end Go.Proofs.Ytimnepfdpehdmaa

namespace Go.Proofs.Ytimnepfdpehdmaa
open Go.RowKit
attribute [local go_sem ↓] Go.wp_at_zero Go.wp_at_succ

abbrev msgA (m : Msg) (v : Value) : Value := .agg #[.int .i64 m.pub, .int .i64 m.ttl, .int .i64 m.sec, .int .i64 m.frac, .int .i64 m.qual, .int .i64 m.state, .int .i64 m.seq, .bool m.test, .int .i64 m.rev, v]
theorem vErr_found : ∀ (l : List Val) (k : Nat) (x : Val), l[k]? = some x → chk x ≠ 0 → (∀ (i : Nat) y, l[i]? = some y → i < k → chk y = 0) → vErr l = chk x
  | [], _, _, h, _, _ => by simp at h
  | y :: l, 0, x, h, h1, _ => by
    simp only [List.getElem?_cons_zero, Option.some.injEq] at h
    subst h
    simp only [vErr, if_neg h1]
  | y :: l, k + 1, x, h, h1, h2 => by
    have h0 : chk y = 0 := h2 0 y rfl (by omega)
    simp only [vErr, if_pos h0]
    exact vErr_found l k x (by simpa using h) h1 (fun i z hz hi => h2 (i + 1) z (by simpa using hz) (by omega))
theorem vErr_none : ∀ (l : List Val), (∀ (i : Nat) y, l[i]? = some y → chk y = 0) → vErr l = 0
  | [], _ => rfl
  | y :: l, h => by
    simp only [vErr, if_pos (h 0 y rfl)]
    exact vErr_none l fun i z hz => h (i + 1) z (by simpa using hz)
theorem chk_time (a b c : Int) : chk ⟨5, 0, ⟨#[]⟩, a, b, c⟩ = stErr a b c := by
  unfold chk noN noS
  simp [ByteArray.toList_eq]
def numOk (m : Msg) : Prop := 0 ≤ m.pub ∧ m.pub ≤ 999 ∧ 1 ≤ m.ttl ∧ m.ttl ≤ 65535 ∧ 1 ≤ m.state ∧ m.state ≤ 4294967295 ∧ 0 ≤ m.seq ∧ m.seq ≤ 4294967295 ∧ 0 ≤ m.rev ∧ m.rev ≤ 4294967295
theorem chkM_no (m : Msg) (h : ¬ numOk m) : chkM m = 2 := by
  unfold numOk at h
  unfold chkM
  by_cases h1 : m.pub < 0 ∨ 999 < m.pub ∨ m.ttl < 1 ∨ 65535 < m.ttl
  · rw [if_pos h1]
  · rw [if_neg h1, if_pos (by omega)]
theorem chkM_yes (m : Msg) (h : numOk m) : chkM m = if stErr m.sec m.frac m.qual ≠ 0 then stErr m.sec m.frac m.qual else if 24 < m.vals.length then 3 else vErr m.vals := by
  unfold numOk at h
  unfold chkM
  rw [if_neg (by omega), if_neg (by omega)]

theorem num_ways {a b c d e : Int} (h : ¬ (0 ≤ a ∧ a ≤ 999 ∧ 1 ≤ b ∧ b ≤ 65535 ∧ 1 ≤ c ∧ c ≤ 4294967295 ∧ 0 ≤ d ∧ d ≤ 4294967295 ∧ 0 ≤ e ∧ e ≤ 4294967295)) :
    (a < 0) ∨ (0 ≤ a ∧ 999 < a) ∨ (0 ≤ a ∧ a ≤ 999 ∧ b < 1) ∨ (0 ≤ a ∧ a ≤ 999 ∧ 1 ≤ b ∧ 65535 < b) ∨ (0 ≤ a ∧ a ≤ 999 ∧ 1 ≤ b ∧ b ≤ 65535 ∧ c < 1) ∨ (0 ≤ a ∧ a ≤ 999 ∧ 1 ≤ b ∧ b ≤ 65535 ∧ 1 ≤ c ∧ 4294967295 < c)
    ∨ (0 ≤ a ∧ a ≤ 999 ∧ 1 ≤ b ∧ b ≤ 65535 ∧ 1 ≤ c ∧ c ≤ 4294967295 ∧ d < 0) ∨ (0 ≤ a ∧ a ≤ 999 ∧ 1 ≤ b ∧ b ≤ 65535 ∧ 1 ≤ c ∧ c ≤ 4294967295 ∧ 0 ≤ d ∧ 4294967295 < d)
    ∨ (0 ≤ a ∧ a ≤ 999 ∧ 1 ≤ b ∧ b ≤ 65535 ∧ 1 ≤ c ∧ c ≤ 4294967295 ∧ 0 ≤ d ∧ d ≤ 4294967295 ∧ e < 0) ∨ (0 ≤ a ∧ a ≤ 999 ∧ 1 ≤ b ∧ b ≤ 65535 ∧ 1 ≤ c ∧ c ≤ 4294967295 ∧ 0 ≤ d ∧ d ≤ 4294967295 ∧ 0 ≤ e ∧ 4294967295 < e) := by
  by_cases c1 : a < 0
  · exact .inl c1
  replace c1 : 0 ≤ a := by omega
  right
  by_cases c2 : 999 < a
  · exact .inl ⟨c1, c2⟩
  replace c2 : a ≤ 999 := by omega
  right
  by_cases c3 : b < 1
  · exact .inl ⟨c1, c2, c3⟩
  replace c3 : 1 ≤ b := by omega
  right
  by_cases c4 : 65535 < b
  · exact .inl ⟨c1, c2, c3, c4⟩
  replace c4 : b ≤ 65535 := by omega
  right
  by_cases c5 : c < 1
  · exact .inl ⟨c1, c2, c3, c4, c5⟩
  replace c5 : 1 ≤ c := by omega
  right
  by_cases c6 : 4294967295 < c
  · exact .inl ⟨c1, c2, c3, c4, c5, c6⟩
  replace c6 : c ≤ 4294967295 := by omega
  right
  by_cases c7 : d < 0
  · exact .inl ⟨c1, c2, c3, c4, c5, c6, c7⟩
  replace c7 : 0 ≤ d := by omega
  right
  by_cases c8 : 4294967295 < d
  · exact .inl ⟨c1, c2, c3, c4, c5, c6, c7, c8⟩
  replace c8 : d ≤ 4294967295 := by omega
  right
  by_cases c9 : e < 0
  · exact .inl ⟨c1, c2, c3, c4, c5, c6, c7, c8, c9⟩
  replace c9 : 0 ≤ e := by omega
  right
  exact ⟨c1, c2, c3, c4, c5, c6, c7, c8, c9, by
    by_cases c10 : e ≤ 4294967295
    · exact absurd ⟨c1, c2, c3, c4, c5, c6, c7, c8, c9, c10⟩ h
    · omega⟩
set_option maxRecDepth 100000 in
set_option maxHeartbeats 4000000 in
theorem checkM_no (m : Msg) (v : Value) (w : World) (h : ¬ numOk m) : Calls Try.prog 22 #[msgA m v] w fun e w' => e = .returned (.int .i64 2) ∧ Ext w w' := by
  obtain ⟨m1, m2, m3, m4, m5, m6, m7, m8, m9, m10⟩ := m
  rcases num_ways h with h1 | ⟨h1, h2⟩ | ⟨h1, h2, h3⟩ | ⟨h1, h2, h3, h4⟩ | ⟨h1, h2, h3, h4, h5⟩ | ⟨h1, h2, h3, h4, h5, h6⟩ | ⟨h1, h2, h3, h4, h5, h6, h7⟩ | ⟨h1, h2, h3, h4, h5, h6, h7, h8⟩ | ⟨h1, h2, h3, h4, h5, h6, h7, h8, h9⟩ | ⟨h1, h2, h3, h4, h5, h6, h7, h8, h9, h10⟩
  all_goals
    clear h
    simp only at *
    go_enter Try.func22, Try.ntmps22
    go_wp2_with fail
    go_ret
    exact ⟨rfl, (Ext.refl _).alloc _⟩
set_option maxRecDepth 100000 in
set_option maxHeartbeats 4000000 in
theorem checkM_yes (m : Msg) (v : Value) (w : World) (hv : RF Any 6 valE w v m.vals) (h : numOk m) : Calls Try.prog 22 #[msgA m v] w fun e w' => e = .returned (.int .i64 (chkM m)) ∧ Ext w w' := by
  rw [chkM_yes m h]
  obtain ⟨a, c, rfl, hc1, hc2⟩ := hv.form
  have H0 := Lib.hid (fun w1 => checkV_any ⟨5, 0, ⟨#[]⟩, m.sec, m.frac, m.qual⟩ w1)
  rw [chk_time] at H0
  obtain ⟨m1, m2, m3, m4, m5, m6, m7, m8, m9, l⟩ := m
  obtain ⟨h1, h2, h3, h4, h5, h6, h7, h8, h9, h10⟩ := h
  simp only at *
  generalize stErr m3 m4 m5 = se at *
  by_cases hse : se = 0
  · subst hse
    rw [if_neg (by simp)]
    have HV := Lib.hid hv
    by_cases hl : 24 < l.length
    · rw [if_pos hl]
      have hl' : (24 : Int) < l.length := by omega
      generalize l.length = n at *
      clear hv
      go_enter Try.func22, Try.ntmps22
      go_wp2_with fail
      refine (H0.out _).mono ?_
      rintro e w1 ⟨rfl, x1⟩
      have g9 := x1.cell (cell_at w #[.int .i64 m1, .int .i64 m2, .int .i64 m3, .int .i64 m4, .int .i64 m5, .int .i64 m6, .int .i64 m7, .bool m8, .int .i64 m9, .slice a n c] 55 _ 9 _ rfl rfl)
      go_wp2_with fail
      go_ret
      exact ⟨rfl, ((Ext.refl _).alloc _).trans x1⟩
    · rw [if_neg hl]
      have HF := Lib.hid (vErr_found l)
      have HN := Lib.hid (vErr_none l)
      have hl' : ¬ (24 : Int) < l.length := by omega
      have hl2 : l.length ≤ 24 := by omega
      generalize vErr l = r at *
      generalize hn : l.length = n at *
      have HNN := Lib.hid hn
      clear hv hn hl hc1 hc2
      go_enter Try.func22, Try.ntmps22
      go_wp2_with fail
      refine (H0.out _).mono ?_
      rintro e w1 ⟨rfl, x1⟩
      have g9 := x1.cell (cell_at w #[.int .i64 m1, .int .i64 m2, .int .i64 m3, .int .i64 m4, .int .i64 m5, .int .i64 m6, .int .i64 m7, .bool m8, .int .i64 m9, .slice a n c] 55 _ 9 _ rfl rfl)
      have X1 := ((Ext.refl _).alloc _).trans x1
      clear x1
      go_wp2_with fail
      have G9 := Lib.hid g9
      clear g9
      go_loopw [5, 6, 67] (fun _ _ i wr => ∃ (k : Nat), k ≤ n ∧ i = .int .i64 k ∧ (∀ (i : Nat) y, l[i]? = some y → i < k → chk y = 0) ∧ Ext w wr) (fun _ _ i _ => n - (intOf i).toNat)
      case atStart => exact ⟨0, Nat.zero_le _, rfl, fun i _ _ h => by omega, X1⟩
      case round =>
        obtain ⟨k, hk1, rfl, hall, hx⟩ := hrel
        have HALL := Lib.hid hall
        clear hall X1
        by_cases hlt : k < n
        · obtain ⟨x, hxk⟩ : ∃ x, l[k]? = some x := ⟨_, List.getElem?_eq_getElem (by rw [HNN.out]; exact hlt)⟩
          obtain ⟨b1, o1, c1, hv1, g0, g1, g2, g3, g4, g5⟩ := val_get (HV.out.ext hx) hxk
          rw [HNN.out] at hv1
          simp only [Value.slice.injEq] at hv1
          obtain ⟨rfl, -, rfl⟩ := hv1
          have HC := Lib.hid (fun w1 => checkV_any x w1)
          obtain ⟨q, hq⟩ : ∃ q, chk x = q := ⟨_, rfl⟩
          rw [hq] at HC
          have HQ := Lib.hid hq
          have HXK := Lib.hid hxk
          have hki : (k : Int) < n := by omega
          clear hq hxk
          obtain ⟨x1, x2, x3, x4, x5, x6⟩ := x
          simp only at *
          by_cases hq0 : q = 0
          · subst hq0
            go_wp2_with (go_at_call 36; (with_reducible refine (HC.out _).mono ?_); rintro e w2 ⟨rfl, x2⟩)
            go_roundw
            case rel => exact ⟨k + 1, by omega, by go_num, fun i y h1 hi => by
              rcases Nat.lt_or_ge i k with h | h
              · exact HALL.out i y h1 h
              · have hik : i = k := by omega
                subst hik
                have e1 := HXK.out
                rw [h1] at e1
                injection e1 with e1
                rw [e1]
                exact HQ.out, (hx.alloc _).trans x2⟩
            case measure => simp [intOf]; omega
          · have hq1 : (q != 0) = true := by simpa using hq0
            have HQ0 := Lib.hid hq0
            clear hq0
            go_wp2_with (go_at_call 36; (with_reducible refine (HC.out _).mono ?_); rintro e w2 ⟨rfl, x2⟩)
            go_ret
            refine ⟨ret_int ?_, (hx.alloc _).trans x2⟩
            have := HF.out k _ HXK.out (by rw [HQ.out]; exact HQ0.out) HALL.out
            rw [this, HQ.out]
        · go_wp2_with fail
          go_ret
          refine ⟨ret_int ?_, hx⟩
          exact (HN.out fun i y h1 => HALL.out i y h1 (by have := get_lt h1; rw [HNN.out] at this; omega)).symm
  · rw [if_pos hse]
    have hse1 : (se != 0) = true := by simpa using hse
    clear hse
    generalize l.length = n at *
    clear hv
    go_enter Try.func22, Try.ntmps22
    go_wp2_with fail
    refine (H0.out _).mono ?_
    rintro e w1 ⟨rfl, x1⟩
    go_wp2_with fail
    go_ret
    exact ⟨rfl, ((Ext.refl _).alloc _).trans x1⟩
theorem checkM_any (m : Msg) (v : Value) (w : World) (hv : RF Any 6 valE w v m.vals) : Calls Try.prog 22 #[msgA m v] w fun e w' => e = .returned (.int .i64 (chkM m)) ∧ Ext w w' := by
  by_cases h : numOk m
  · exact checkM_yes m v w hv h
  · rw [chkM_no m h]
    exact checkM_no m v w h
end Go.Proofs.Ytimnepfdpehdmaa
