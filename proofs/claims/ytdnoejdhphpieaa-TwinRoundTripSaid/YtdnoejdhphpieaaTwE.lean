/- pair, two and networks: layer 16. -/
import Derived.Test.YtdnoejdhphpieaaTwD
import Derived.Test.YtdnoejdhphpieaaStr
import Derived.Test.YtdnoejdhphpieaaCut
import Derived.Deep.QuietTactic
import Derived.BigQuiet
import Derived.Maps.Own
import Derived.Laws.BitsLemmas
import Derived.WideMake
namespace Go.Proofs.Ytdnoejdhphpieaa
open Go.RowKit
attribute [local go_sem ↓] Go.wp_at_zero Go.wp_at_succ

theorem join8 (x y : Int) (hx : 0 ≤ x ∧ x ≤ 255) (hy : 0 ≤ y ∧ y ≤ 255) : bits .or .i64 (x * 256) y = x * 256 + y :=
  bits_join .i64 62 (by decide) (fun n h0 h1 => IntWalk.i64_in n (by have : (2 : Int) ^ 62 = 4611686018427387904 := by decide +kernel
                                                                     omega)) 8 _ _ (by omega) (by have : (2 : Int) ^ 8 = 256 := by decide
                                                                                                  rw [this]; omega) (by have : (2 : Int) ^ 62 = 4611686018427387904 := by decide +kernel
                                                                                                                        omega) hy.1 (by have : (2 : Int) ^ 8 = 256 := by decide
                                                                                                                                        omega) (by have : (2 : Int) ^ 62 = 4611686018427387904 := by decide +kernel
                                                                                                                                                   omega)
theorem pair_cells (F : FuncId) (hF : F = 34 ∨ F = 35) (x y : Int) (b off n c : Nat) (w : World) (hx : 0 ≤ x ∧ x ≤ 255) (hy : 0 ≤ y ∧ y ≤ 255) (g0 : w.cell? ⟨b, off, none⟩ = some (.int .u8 x)) (g1 : w.cell? ⟨b, off + 1, none⟩ = some (.int .u8 y)) (hn : 2 ≤ n) :
    Calls Try.prog F #[.slice (some ⟨b, off, none⟩) n c] w fun e w' => e = .returned (.int .i64 (x * 256 + y)) ∧ ∃ q, w' = w.drewN q := by
  have hj := join8 x y hx hy
  obtain ⟨hx1, hx2⟩ := hx
  obtain ⟨hy1, hy2⟩ := hy
  have hn1 : (1 : Int) < n := by omega
  have hn0 : (0 : Int) < n := by omega
  rcases hF with rfl | rfl
  · go_enter Try.func34, Try.ntmps34
    go_wp2
    go_quiet (fail)
    go_wp2
    go_ret
    exact ⟨rfl, nq, rfl⟩
  · go_enter Try.func35, Try.ntmps35
    go_wp2
    go_quiet (fail)
    go_wp2
    go_ret
    exact ⟨rfl, nq, rfl⟩

/-! ### The map of the networks -/
def netEs : Array MapEntry := #[{ key := .int .u8 160, val := .int .i64 0, born := 0 }, { key := .int .u8 161, val := .int .i64 1, born := 1 }]
theorem alloc_set (w : World) (o o' : Obj) : ({ w.alloc o with heap := (w.alloc o).heap.setIfInBounds w.heap.size o' } : World) = w.alloc o' := by
  have h : (w.heap.push o).setIfInBounds w.heap.size o' = w.heap.push o' := by
    apply Array.ext_getElem?
    intro i
    rw [Array.getElem?_setIfInBounds, Array.getElem?_push, Array.getElem?_push]
    by_cases hi : w.heap.size = i
    · subst hi; simp
    · have : ¬ i = w.heap.size := fun e => hi e.symm
      simp [hi, this]
  show ({ w with heap := (w.heap.push o).setIfInBounds w.heap.size o' } : World) = { w with heap := w.heap.push o' }
  rw [h]
theorem up_one (w : World) (es : Array MapEntry) (clock : Nat) (k : Int) (v : Value) (hf : Instr.findNow (.int .u8) (.int .u8 k) es.toList 0 = some none) :
    (Instr.mapUpdate 79 (.map (some w.heap.size)) (.int .u8 k) v).run Try.prog (w.alloc (.map es clock)) = .ok () (w.alloc (.map (es.push { key := .int .u8 k, val := v, born := clock }) (clock + 1))) := by
  have hb : (w.alloc (.map es clock)).heap[w.heap.size]? = some (.map es clock) := heap_alloc_new w _
  have hm : Try.prog.underlying 79 = some (.map 5 3) := by kernel_rfl
  have hc : (Instr.checkKey false 10000 5 (.int .u8 k)).run Try.prog (w.alloc (.map es clock)) = .ok () (w.alloc (.map es clock)) := MapKept.run_checkKey (k := .int .u8 k) Try.underlying5 (by simp [MapKept.IsKey]) false 9999
  simp [Instr.mapUpdate, run_underlying hm, MapKept.run_getObj_map hb, hc, MapKept.run_findKey Try.underlying5 hf, MapKept.run_setObj_map _ hb, Result.andThen]
  exact alloc_set w _ _
theorem networks_any (w : World) : Calls Try.prog 32 #[] w fun e w' => e = .returned (.map (some w.heap.size)) ∧ w' = w.alloc (.map netEs 2) := by
  have hmm := @run_makeMap Try.prog
  have u1 := up_one w #[] 0 160 (.int .i64 0) rfl
  have u2 := up_one w #[{ key := .int .u8 160, val := .int .i64 0, born := 0 }] 1 161 (.int .i64 1) rfl
  simp only [List.push_toArray, List.nil_append, List.cons_append] at u1 u2
  go_enter Try.func32, Try.ntmps32
  go_wp2
  go_ret
  exact ⟨rfl, rfl⟩
def netOf (x : Int) : Int := if x = 161 then 1 else 0
def isNet (x : Int) : Bool := decide (x = 160) || decide (x = 161)
theorem net_look (w : World) (r : Nat) (x : Int) (h : w.heap[r]? = some (.map netEs 2)) : (Instr.lookup 79 (.map (some r)) (.int .u8 x) true).run Try.prog w = .ok (.tuple #[.int .i64 (netOf x), .bool (isNet x)]) w := by
  have hm : Try.prog.underlying 79 = some (.map 5 3) := by kernel_rfl
  have hc : (Instr.checkKey false 10000 5 (.int .u8 x)).run Try.prog w = .ok () w := MapKept.run_checkKey (k := .int .u8 x) Try.underlying5 (by simp [MapKept.IsKey]) false 9999
  have hz : (zeroValue 3).run Try.prog w = .ok (.int .i64 0) w := by kernel_rfl
  have he : netEs.isEmpty = false := rfl
  unfold netOf isNet
  by_cases h0 : x = 160
  · subst h0
    have hf : Instr.findNow (.int .u8) (.int .u8 160) netEs.toList 0 = some (some (0, .int .i64 0)) := rfl
    simp [Instr.lookup, run_underlying hm, MapKept.run_getObj_map h, he, hc, MapKept.run_findKey Try.underlying5 hf, Result.andThen]
  · by_cases h1 : x = 161
    · subst h1
      have hf : Instr.findNow (.int .u8) (.int .u8 161) netEs.toList 0 = some (some (1, .int .i64 1)) := rfl
      simp [Instr.lookup, run_underlying hm, MapKept.run_getObj_map h, he, hc, MapKept.run_findKey Try.underlying5 hf, Result.andThen]
    · have hf : Instr.findNow (.int .u8) (.int .u8 x) netEs.toList 0 = some none := by
        have e0 : (x == 160) = false := by simpa using h0
        have e1 : (x == 161) = false := by simpa using h1
        simp [netEs, Instr.findNow, Instr.sameNow, e0, e1]
      simp [Instr.lookup, run_underlying hm, MapKept.run_getObj_map h, he, hc, MapKept.run_findKey Try.underlying5 hf, hz, Result.andThen, h0, h1]
end Go.Proofs.Ytdnoejdhphpieaa
