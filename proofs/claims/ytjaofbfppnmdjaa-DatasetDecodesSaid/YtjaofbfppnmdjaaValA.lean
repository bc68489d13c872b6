/- Contracts of contentOf, valueOf and the five checks: layer 11. -/
import Derived.Test.YtjaofbfppnmdjaaChecked
import Derived.Test.YtjaofbfppnmdjaaVal
import Derived.Laws.StructEq
import Derived.Lib.SliceRun
namespace Go.Proofs.Ytjaofbfppnmdjaa
open Go.RowKit
attribute [local go_sem ↓] Go.wp_at_zero Go.wp_at_succ

/-- The content of a value of one of the kinds. -/
def contV (v : Val) : Value :=
  if v.kind = 1 then .iface 123 (.int .i64 v.n) else if v.kind = 2 then .iface 124 (.int .i64 v.n) else if v.kind = 3 then .iface 125 (.string v.s)
  else if v.kind = 4 then .iface 126 (.string v.s) else .iface 127 (.agg #[.int .i64 v.sec, .int .i64 v.frac, .int .i64 v.qual])
def isKind (v : Val) : Bool := decide (1 ≤ v.kind) && decide (v.kind ≤ 5)
theorem contentOf_no (v : Val) (w : World) (hk : isKind v = false) : Calls Try.prog 48 #[valA v] w fun e w' => e = .returned (.tuple #[.nilIface, .bool false]) ∧ Ext w w' := by
  obtain ⟨k, n, s, a, b, c⟩ := v
  simp only [isKind, Bool.and_eq_false_iff, decide_eq_false_iff_not] at hk
  have h1 : (k == 1) = false := by simp only [beq_eq_false_iff_ne, ne_eq]; omega
  have h2 : (k == 2) = false := by simp only [beq_eq_false_iff_ne, ne_eq]; omega
  have h3 : (k == 3) = false := by simp only [beq_eq_false_iff_ne, ne_eq]; omega
  have h4 : (k == 4) = false := by simp only [beq_eq_false_iff_ne, ne_eq]; omega
  have h5 : (k == 5) = false := by simp only [beq_eq_false_iff_ne, ne_eq]; omega
  clear hk
  go_enter Try.func48, Try.ntmps48
  go_wp2
  go_ret2
  exact ⟨rfl, (Ext.refl _).alloc _⟩
theorem contentOf_yes (v : Val) (w : World) (hk : isKind v = true) : Calls Try.prog 48 #[valA v] w fun e w' => e = .returned (.tuple #[contV v, .bool true]) ∧ Ext w w' := by
  obtain ⟨k, n, s, a, b, c⟩ := v
  simp only [isKind, Bool.and_eq_true, decide_eq_true_eq] at hk
  obtain rfl | rfl | rfl | rfl | rfl : k = 1 ∨ k = 2 ∨ k = 3 ∨ k = 4 ∨ k = 5 := by omega
  all_goals
    simp only [contV]
    clear hk
    go_enter Try.func48, Try.ntmps48
    go_wp2
    go_ret2
    exact ⟨rfl, (Ext.refl _).alloc _⟩
/-- The value that a content gives back. -/
def backV (v : Val) : Val :=
  if v.kind = 1 ∨ v.kind = 2 then ⟨v.kind, v.n, ⟨#[]⟩, 0, 0, 0⟩ else if v.kind = 3 ∨ v.kind = 4 then ⟨v.kind, 0, v.s, 0, 0, 0⟩ else ⟨v.kind, 0, ⟨#[]⟩, v.sec, v.frac, v.qual⟩
@[local go_sem] theorem ta_truth_truth (x : Value) (w : World) : (Instr.typeAssert (.iface 123 x) 90 123 true).run Try.prog w = .ok (.tuple #[x, .bool true]) w := by kernel_rfl
@[local go_sem] theorem ta_whole_truth (x : Value) (w : World) : (Instr.typeAssert (.iface 124 x) 90 123 true).run Try.prog w = .ok (.tuple #[.int .i64 0, .bool false]) w := by kernel_rfl
@[local go_sem] theorem ta_whole_whole (x : Value) (w : World) : (Instr.typeAssert (.iface 124 x) 90 124 true).run Try.prog w = .ok (.tuple #[x, .bool true]) w := by kernel_rfl
@[local go_sem] theorem ta_bits_truth (x : Value) (w : World) : (Instr.typeAssert (.iface 125 x) 90 123 true).run Try.prog w = .ok (.tuple #[.int .i64 0, .bool false]) w := by kernel_rfl
@[local go_sem] theorem ta_bits_whole (x : Value) (w : World) : (Instr.typeAssert (.iface 125 x) 90 124 true).run Try.prog w = .ok (.tuple #[.int .i64 0, .bool false]) w := by kernel_rfl
@[local go_sem] theorem ta_bits_bits (x : Value) (w : World) : (Instr.typeAssert (.iface 125 x) 90 125 true).run Try.prog w = .ok (.tuple #[x, .bool true]) w := by kernel_rfl
@[local go_sem] theorem ta_text_truth (x : Value) (w : World) : (Instr.typeAssert (.iface 126 x) 90 123 true).run Try.prog w = .ok (.tuple #[.int .i64 0, .bool false]) w := by kernel_rfl
@[local go_sem] theorem ta_text_whole (x : Value) (w : World) : (Instr.typeAssert (.iface 126 x) 90 124 true).run Try.prog w = .ok (.tuple #[.int .i64 0, .bool false]) w := by kernel_rfl
@[local go_sem] theorem ta_text_bits (x : Value) (w : World) : (Instr.typeAssert (.iface 126 x) 90 125 true).run Try.prog w = .ok (.tuple #[.string ⟨#[]⟩, .bool false]) w := by kernel_rfl
@[local go_sem] theorem ta_text_text (x : Value) (w : World) : (Instr.typeAssert (.iface 126 x) 90 126 true).run Try.prog w = .ok (.tuple #[x, .bool true]) w := by kernel_rfl
@[local go_sem] theorem ta_moment_truth (x : Value) (w : World) : (Instr.typeAssert (.iface 127 x) 90 123 true).run Try.prog w = .ok (.tuple #[.int .i64 0, .bool false]) w := by kernel_rfl
@[local go_sem] theorem ta_moment_whole (x : Value) (w : World) : (Instr.typeAssert (.iface 127 x) 90 124 true).run Try.prog w = .ok (.tuple #[.int .i64 0, .bool false]) w := by kernel_rfl
@[local go_sem] theorem ta_moment_bits (x : Value) (w : World) : (Instr.typeAssert (.iface 127 x) 90 125 true).run Try.prog w = .ok (.tuple #[.string ⟨#[]⟩, .bool false]) w := by kernel_rfl
@[local go_sem] theorem ta_moment_text (x : Value) (w : World) : (Instr.typeAssert (.iface 127 x) 90 126 true).run Try.prog w = .ok (.tuple #[.string ⟨#[]⟩, .bool false]) w := by kernel_rfl
@[local go_sem] theorem ta_moment_moment (x : Value) (w : World) : (Instr.typeAssert (.iface 127 x) 90 127 true).run Try.prog w = .ok (.tuple #[x, .bool true]) w := by kernel_rfl
set_option maxRecDepth 100000 in
theorem valueOf_yes (v : Val) (w : World) (hk : isKind v = true) : Calls Try.prog 50 #[contV v] w fun e w' => e = .returned (valA (backV v)) ∧ Ext w w' := by
  obtain ⟨k, n, s, a, b, c⟩ := v
  simp only [isKind, Bool.and_eq_true, decide_eq_true_eq] at hk
  obtain rfl | rfl | rfl | rfl | rfl : k = 1 ∨ k = 2 ∨ k = 3 ∨ k = 4 ∨ k = 5 := by omega
  all_goals
    simp only [contV, backV]
    clear hk
    go_enter Try.func50, Try.ntmps50
    go_wp2
    first
      | exact bodyPost_ret (v := .agg #[.int .i64 1, .int .i64 n, .string ⟨#[]⟩, .int .i64 0, .int .i64 0, .int .i64 0]) (by simp [results, Try.results50, go_sem]) rfl ⟨rfl, (Ext.refl _).alloc _⟩
      | exact bodyPost_ret (v := .agg #[.int .i64 2, .int .i64 n, .string ⟨#[]⟩, .int .i64 0, .int .i64 0, .int .i64 0]) (by simp [results, Try.results50, go_sem]) rfl ⟨rfl, (Ext.refl _).alloc _⟩
      | exact bodyPost_ret (v := .agg #[.int .i64 3, .int .i64 0, .string s, .int .i64 0, .int .i64 0, .int .i64 0]) (by simp [results, Try.results50, go_sem]) rfl ⟨rfl, (Ext.refl _).alloc _⟩
      | exact bodyPost_ret (v := .agg #[.int .i64 4, .int .i64 0, .string s, .int .i64 0, .int .i64 0, .int .i64 0]) (by simp [results, Try.results50, go_sem]) rfl ⟨rfl, (Ext.refl _).alloc _⟩
      | exact bodyPost_ret (v := .agg #[.int .i64 5, .int .i64 0, .string ⟨#[]⟩, .int .i64 a, .int .i64 b, .int .i64 c]) (by simp [results, Try.results50, go_sem]) rfl ⟨rfl, ((Ext.refl _).alloc _).alloc _⟩

/-! ### The five checks -/
theorem truthCheck_any (n : Int) (w : World) : Calls Try.prog 106 #[.int .i64 n] w fun e w' => e = .returned (.int .i64 (if n = 0 ∨ n = 1 then 0 else 2)) ∧ Ext w w' := by
  by_cases h0 : n = 0
  · subst h0
    go_enter Try.func106, Try.ntmps106
    go_wp2
    go_ret
    exact ⟨rfl, Ext.refl _⟩
  · by_cases h1 : n = 1
    · subst h1
      go_enter Try.func106, Try.ntmps106
      go_wp2
      go_ret
      exact ⟨rfl, Ext.refl _⟩
    · rw [if_neg (by omega)]
      have e0 : (n == 0) = false := by simpa using h0
      have e1 : (n == 1) = false := by simpa using h1
      have f0 : (n != 0) = true := by simpa using h0
      have f1 : (n != 1) = true := by simpa using h1
      clear h0 h1
      go_enter Try.func106, Try.ntmps106
      go_wp2
      go_ret
      exact ⟨rfl, Ext.refl _⟩
theorem wholeCheck_any (n : Int) (w : World) : Calls Try.prog 109 #[.int .i64 n] w fun e w' => e = .returned (.int .i64 0) ∧ Ext w w' := by
  go_enter Try.func109, Try.ntmps109
  go_wp2
  go_ret
  exact ⟨rfl, Ext.refl _⟩
theorem textCheck_any (s : ByteArray) (w : World) : Calls Try.prog 116 #[.string s] w fun e w' => e = .returned (.int .i64 (if 64 < s.size then 4 else 0)) ∧ Ext w w' := by
  by_cases h : 64 < s.size
  · rw [if_pos h]
    have h2 : (64 : Int) < s.size := by omega
    go_enter Try.func116, Try.ntmps116
    go_wp2
    go_ret
    exact ⟨rfl, Ext.refl _⟩
  · rw [if_neg h]
    have h2 : ¬ (64 : Int) < s.size := by omega
    go_enter Try.func116, Try.ntmps116
    go_wp2
    go_ret
    exact ⟨rfl, Ext.refl _⟩
set_option maxRecDepth 100000 in
theorem momentCheck_any (a b c : Int) (w : World) : Calls Try.prog 119 #[.agg #[.int .i64 a, .int .i64 b, .int .i64 c]] w fun e w' => e = .returned (.int .i64 (stErr a b c)) ∧ Ext w w' := by
  obtain ⟨z, hz⟩ : ∃ z, stErr a b c = z := ⟨_, rfl⟩
  rw [hz]
  unfold stErr at hz
  have HZ := Lib.hid hz
  clear hz
  go_enter Try.func119, Try.ntmps119
  go_wp2
  all_goals
    go_ret
    refine ⟨ret_int ?_, (Ext.refl _).alloc _⟩
    rw [← HZ.out]
    first | rw [if_pos (by omega)] | rw [if_neg (by omega)]
theorem bit_iff (x : UInt8) : (x == 48 || x == 49) = true ↔ (x.toNat : Int) = 48 ∨ (x.toNat : Int) = 49 := by
  have e : ∀ (x y : UInt8), x = y ↔ x.toNat = y.toNat := fun x y => ⟨fun h => by rw [h], fun h => UInt8.toNat_inj.1 h⟩
  simp only [Bool.or_eq_true, beq_iff_eq]
  rw [e, e, show (48 : UInt8).toNat = 48 from rfl, show (49 : UInt8).toNat = 49 from rfl]
  omega
theorem bitB_iff (s : ByteArray) : bitB s = true ↔ ∀ i (hi : i < s.size), (s[i] == 48 || s[i] == 49) = true := by
  unfold bitB
  rw [ByteArray.toList_eq, List.all_eq_true]
  constructor
  · intro h i hi
    exact h _ (Array.getElem_mem_toList (xs := s.data) (i := i) hi)
  · intro h x hx
    obtain ⟨i, hi, rfl⟩ := List.getElem_of_mem hx
    exact h i (by simpa using hi)
set_option maxHeartbeats 1000000 in
theorem bitsCheck_any (s : ByteArray) (w : World) : Calls Try.prog 113 #[.string s] w fun e w' => e = .returned (.int .i64 (bitErr s)) ∧ Ext w w' := by
  unfold bitErr
  by_cases h : 64 < s.size
  · rw [if_pos h]
    have h2 : (64 : Int) < s.size := by omega
    go_enter Try.func113, Try.ntmps113
    go_wp2
    go_ret
    exact ⟨rfl, Ext.refl _⟩
  · rw [if_neg h]
    have h2 : ¬ (64 : Int) < s.size := by omega
    obtain ⟨z, hz⟩ : ∃ z : Int, (if bitB s = true then 0 else 5) = z := ⟨_, rfl⟩
    rw [hz]
    have HZ := Lib.hid hz
    clear hz
    go_enter Try.func113, Try.ntmps113
    go_wp2
    go_loop [2, 9] (fun i j => ∃ k : Nat, k ≤ s.size ∧ j = .int .i64 k ∧ (∀ i (hi : i < s.size), i < k → (s[i] == 48 || s[i] == 49) = true)) (fun _ j => s.size - (intOf j).toNat)
    case atStart => exact ⟨0, Nat.zero_le _, rfl, fun i _ h => by omega⟩
    case round =>
      obtain ⟨k, hk, rfl, hall⟩ := hrel
      have HALL := Lib.hid hall
      clear hall
      by_cases hlt : k < s.size
      · have HB := Lib.hid (bit_iff s[k])
        by_cases h0 : (s[k].toNat : Int) = 48 ∨ (s[k].toNat : Int) = 49
        · have H0 := Lib.hid h0
          rcases h0 with h0 | h0
          all_goals
            go_wp2
            go_round
            case rel => exact ⟨k + 1, by omega, by go_num, fun i hi h => by
              rcases Nat.lt_or_ge i k with h2 | h2
              · exact HALL.out i hi h2
              · obtain rfl : i = k := by omega
                exact HB.out.2 H0.out⟩
            case measure => simp [intOf]; omega
        · have H0 := Lib.hid h0
          have e0 : ((s[k].toNat : Int) == 48) = false := by simp only [beq_eq_false_iff_ne, ne_eq]; omega
          have e1 : ((s[k].toNat : Int) == 49) = false := by simp only [beq_eq_false_iff_ne, ne_eq]; omega
          have f0 : ((s[k].toNat : Int) != 48) = true := by simp only [bne_iff_ne, ne_eq]; omega
          have f1 : ((s[k].toNat : Int) != 49) = true := by simp only [bne_iff_ne, ne_eq]; omega
          clear h0
          go_wp2
          go_ret
          refine ⟨ret_int ?_, Ext.refl _⟩
          rw [← HZ.out, if_neg]
          intro hb
          exact H0.out (HB.out.1 ((bitB_iff s).1 hb k hlt))
      · go_wp2
        go_ret
        refine ⟨ret_int ?_, Ext.refl _⟩
        rw [← HZ.out, if_pos ((bitB_iff s).2 fun i hi => HALL.out i hi (by omega))]

/-! ### Check -/
theorem equal_stamp (a b c a' b' c' : Int) (d : Nat) (w : World) : (Op.equalIn (d + 1 + 1) 41 (.agg #[.int .i64 a, .int .i64 b, .int .i64 c]) (.agg #[.int .i64 a', .int .i64 b', .int .i64 c'])).run Try.prog w = .ok (decide (a = a' ∧ b = b' ∧ c = c')) w := by
  have hS : Try.prog.underlying 41 = some (.struct (Try.prog.fieldsOf 41)) := by kernel_rfl
  have hp : Try.prog.stoodInHeld 41 = false := by kernel_rfl
  rw [run_equalIn_agg w (d + 1) 41 _ _ hS hp]
  clear hS hp
  simp only [Program.fieldsOf, Try.underlying41]
  go_simp
  by_cases h1 : a = a' <;> by_cases h2 : b = b' <;> by_cases h3 : c = c' <;> simp [h1, h2, h3]
theorem equal_val (x y : Val) (d : Nat) (w : World) : (Op.equalIn (d + 1 + 1 + 1) 43 (valA x) (valA y)).run Try.prog w = .ok (decide (x = y)) w := by
  have hS : Try.prog.underlying 43 = some (.struct (Try.prog.fieldsOf 43)) := by kernel_rfl
  have hp : Try.prog.stoodInHeld 43 = false := by kernel_rfl
  rw [run_equalIn_agg w (d + 1 + 1) 43 _ _ hS hp]
  clear hS hp
  obtain ⟨a, b, c, e, f, g⟩ := x
  obtain ⟨a', b', c', e', f', g'⟩ := y
  have hst := equal_stamp e f g e' f' g' d w
  simp only [Program.fieldsOf, Try.underlying43]
  go_simp
  have hc : (c = c') ↔ c.toList = c'.toList := bytes_eq
  by_cases h1 : a = a' <;> by_cases h2 : b = b' <;> by_cases h3 : c.toList = c'.toList <;> by_cases h4 : e = e' <;> by_cases h5 : f = f' <;> by_cases h6 : g = g' <;> simp [h1, h2, hc, h3, h4, h5, h6]
theorem neq_val (x y : Val) (w : World) : (binOp .neq 43 (valA x) (valA y)).run Try.prog w = .ok (.bool (!decide (x = y))) w := by
  rw [run_neq_struct, show (10000 : Nat) = 9997 + 1 + 1 + 1 from rfl, equal_val]
  rfl
theorem eql_val (x y : Val) (w : World) : (binOp .eql 43 (valA x) (valA y)).run Try.prog w = .ok (.bool (decide (x = y))) w := by
  rw [run_eql_struct, show (10000 : Nat) = 9997 + 1 + 1 + 1 from rfl, equal_val]
  rfl
end Go.Proofs.Ytjaofbfppnmdjaa
