/- within, Same and known of layer 16. -/
import Derived.Test.YtimnepfdpehdmaaTwB
import Derived.Laws.StructEq
import Derived.Test.YtimnepfdpehdmaaChecked
import Derived.Test.YtimnepfdpehdmaaTA
import Derived.Test.YtimnepfdpehdmaaTB
import Derived.Test.YtimnepfdpehdmaaTC
import Derived.Deep.QuietTactic
import Derived.BigQuiet
import Derived.Maps.Own
import Derived.Laws.BitsLemmas
import Derived.WideMake
import Derived.Maps.RangeRun
import Derived.Deep.DeepCutAuto
namespace Go.Proofs.Ytimnepfdpehdmaa
open Go.RowKit
attribute [local go_sem ↓] Go.wp_at_zero Go.wp_at_succ

theorem eql_src (x y : Src3) (w : World) : (binOp .eql 112 (.agg #[.int .i64 x.1, .int .i64 x.2.1, .int .u64 ((x.2.2 : Nat) : Int)]) (.agg #[.int .i64 y.1, .int .i64 y.2.1, .int .u64 ((y.2.2 : Nat) : Int)])).run Try.prog w = .ok (.bool (decide (x = y))) w := by
  have hS : Try.prog.underlying 112 = some (.struct (Try.prog.fieldsOf 112)) := by kernel_rfl
  have hp : Try.prog.stoodInHeld 112 = false := by kernel_rfl
  rw [run_eql_struct, show (10000 : Nat) = 9999 + 1 from rfl, run_equalIn_agg w 9999 112 _ _ hS hp]
  simp only [Program.fieldsOf, Try.underlying112]
  go_simp
  obtain ⟨a, b, c⟩ := x
  obtain ⟨d, e, f⟩ := y
  simp only [Prod.mk.injEq]
  by_cases h1 : a = d <;> by_cases h2 : b = e <;> by_cases h3 : (c : Int) = (f : Int) <;> simp [h1, h2, h3] <;> omega
end Go.Proofs.Ytimnepfdpehdmaa

namespace Go.Proofs.Ytimnepfdpehdmaa
open Go.RowKit
attribute [local go_sem ↓] Go.wp_at_zero Go.wp_at_succ

end Go.Proofs.Ytimnepfdpehdmaa

namespace Go.Proofs.Ytimnepfdpehdmaa
open Go.RowKit
attribute [local go_sem ↓] Go.wp_at_zero Go.wp_at_succ

theorem RF.store {α : Type} {V : Nat → Prop} {k : Nat} {enc : α → List Value} {w : World} {v : Value} {l : List α} (h : RF V k enc w v l) (B : Nat) (hB : V B) (u : Value) : RF V k enc (w.setCell ⟨B, 0, none⟩ u) v l := h.agree (agree_setCell (p := ⟨B, 0, none⟩) hB u)
theorem RF.any {α : Type} {V : Nat → Prop} {k : Nat} {enc : α → List Value} {w : World} {v : Value} {l : List α} (h : RF V k enc w v l) (hk : 0 < k) : RF Any k enc w v l := h.weak hk fun _ _ h => h.elim

end Go.Proofs.Ytimnepfdpehdmaa

namespace Go.Proofs.Ytimnepfdpehdmaa
open Go.RowKit
attribute [local go_sem ↓] Go.wp_at_zero Go.wp_at_succ

theorem join8 (x y : Int) (hx : 0 ≤ x ∧ x ≤ 255) (hy : 0 ≤ y ∧ y ≤ 255) : bits .or .i64 (x * 256) y = x * 256 + y :=
  bits_join .i64 62 (by decide) (fun n h0 h1 => IntWalk.i64_in n (by have : (2 : Int) ^ 62 = 4611686018427387904 := by decide +kernel
                                                                     omega)) 8 _ _ (by omega) (by have : (2 : Int) ^ 8 = 256 := by decide
                                                                                                  rw [this]; omega) (by have : (2 : Int) ^ 62 = 4611686018427387904 := by decide +kernel
                                                                                                                        omega) hy.1 (by have : (2 : Int) ^ 8 = 256 := by decide
                                                                                                                                        omega) (by have : (2 : Int) ^ 62 = 4611686018427387904 := by decide +kernel
                                                                                                                                                   omega)
theorem pair_cellsP (x y : Int) (b off n c : Nat) (w : World) (hx : 0 ≤ x ∧ x ≤ 255) (hy : 0 ≤ y ∧ y ≤ 255) (g0 : w.cell? ⟨b, off, none⟩ = some (.int .u8 x)) (g1 : w.cell? ⟨b, off + 1, none⟩ = some (.int .u8 y)) (hn : 2 ≤ n) :
    Calls Try.prog 38 #[.slice (some ⟨b, off, none⟩) n c] w fun e w' => e = .returned (.int .i64 (x * 256 + y)) ∧ ∃ q, w' = w.drewN q := by
  have hj := join8 x y hx hy
  obtain ⟨hx1, hx2⟩ := hx
  obtain ⟨hy1, hy2⟩ := hy
  have hn1 : (1 : Int) < n := by omega
  have hn0 : (0 : Int) < n := by omega
  go_enter Try.func38, Try.ntmps38
  go_wp2
  go_quiet (fail)
  go_wp2
  go_ret
  exact ⟨rfl, nq, rfl⟩
/-! ### The map of the networks -/
def netEs : Array MapEntry := #[{ key := .int .u8 160, val := .int .i64 0, born := 0 }, { key := .int .u8 161, val := .int .i64 1, born := 1 }]
theorem alloc_set (w : World) (o o' : Obj) : ({ w.alloc o with heap := (w.alloc o).heap.setIfInBounds w.heap.size o' } : World) = w.alloc o' := by
  have h : (w.heap.push o).setIfInBounds w.heap.size o' = w.heap.push o' := by
    apply Array.ext_getElem?
    intro i
    rw [Array.getElem?_setIfInBounds, Array.getElem?_push, Array.getElem?_push]
    by_cases hi : w.heap.size = i
    · subst hi; simp
    · have : ¬ i = w.heap.size := fun e => hi e.symm
      simp [hi, this]
  show ({ w with heap := (w.heap.push o).setIfInBounds w.heap.size o' } : World) = { w with heap := w.heap.push o' }
  rw [h]
theorem up_one (w : World) (es : Array MapEntry) (clock : Nat) (k : Int) (v : Value) (hf : Instr.findNow (.int .u8) (.int .u8 k) es.toList 0 = some none) :
    (Instr.mapUpdate 97 (.map (some w.heap.size)) (.int .u8 k) v).run Try.prog (w.alloc (.map es clock)) = .ok () (w.alloc (.map (es.push { key := .int .u8 k, val := v, born := clock }) (clock + 1))) := by
  have hb : (w.alloc (.map es clock)).heap[w.heap.size]? = some (.map es clock) := heap_alloc_new w _
  have hm : Try.prog.underlying 97 = some (.map 5 3) := by kernel_rfl
  have hc : (Instr.checkKey false 10000 5 (.int .u8 k)).run Try.prog (w.alloc (.map es clock)) = .ok () (w.alloc (.map es clock)) := MapKept.run_checkKey (k := .int .u8 k) Try.underlying5 (by simp [MapKept.IsKey]) false 9999
  simp [Instr.mapUpdate, run_underlying hm, MapKept.run_getObj_map hb, hc, MapKept.run_findKey Try.underlying5 hf, MapKept.run_setObj_map _ hb, Result.andThen]
  exact alloc_set w _ _
theorem networks_any (w : World) : Calls Try.prog 32 #[] w fun e w' => e = .returned (.map (some w.heap.size)) ∧ w' = w.alloc (.map netEs 2) := by
  have hmm := @run_makeMap Try.prog
  have u1 := up_one w #[] 0 160 (.int .i64 0) rfl
  have u2 := up_one w #[{ key := .int .u8 160, val := .int .i64 0, born := 0 }] 1 161 (.int .i64 1) rfl
  simp only [List.push_toArray, List.nil_append, List.cons_append] at u1 u2
  go_enter Try.func32, Try.ntmps32
  go_wp2
  go_ret
  exact ⟨rfl, rfl⟩
def netOf (x : Int) : Int := if x = 161 then 1 else 0
def isNet (x : Int) : Bool := decide (x = 160) || decide (x = 161)
theorem net_look (w : World) (r : Nat) (x : Int) (h : w.heap[r]? = some (.map netEs 2)) : (Instr.lookup 97 (.map (some r)) (.int .u8 x) true).run Try.prog w = .ok (.tuple #[.int .i64 (netOf x), .bool (isNet x)]) w := by
  have hm : Try.prog.underlying 97 = some (.map 5 3) := by kernel_rfl
  have hc : (Instr.checkKey false 10000 5 (.int .u8 x)).run Try.prog w = .ok () w := MapKept.run_checkKey (k := .int .u8 x) Try.underlying5 (by simp [MapKept.IsKey]) false 9999
  have hz : (zeroValue 3).run Try.prog w = .ok (.int .i64 0) w := by kernel_rfl
  have he : netEs.isEmpty = false := rfl
  unfold netOf isNet
  by_cases h0 : x = 160
  · subst h0
    have hf : Instr.findNow (.int .u8) (.int .u8 160) netEs.toList 0 = some (some (0, .int .i64 0)) := rfl
    simp [Instr.lookup, run_underlying hm, MapKept.run_getObj_map h, he, hc, MapKept.run_findKey Try.underlying5 hf, Result.andThen]
  · by_cases h1 : x = 161
    · subst h1
      have hf : Instr.findNow (.int .u8) (.int .u8 161) netEs.toList 0 = some (some (1, .int .i64 1)) := rfl
      simp [Instr.lookup, run_underlying hm, MapKept.run_getObj_map h, he, hc, MapKept.run_findKey Try.underlying5 hf, Result.andThen]
    · have hf : Instr.findNow (.int .u8) (.int .u8 x) netEs.toList 0 = some none := by
        have e0 : (x == 160) = false := by simpa using h0
        have e1 : (x == 161) = false := by simpa using h1
        simp [netEs, Instr.findNow, Instr.sameNow, e0, e1]
      simp [Instr.lookup, run_underlying hm, MapKept.run_getObj_map h, he, hc, MapKept.run_findKey Try.underlying5 hf, hz, Result.andThen, h0, h1]
end Go.Proofs.Ytimnepfdpehdmaa

namespace Go.Proofs.Ytimnepfdpehdmaa
open Go.RowKit
attribute [local go_sem ↓] Go.wp_at_zero Go.wp_at_succ

/-- A copy of a payload: its bytes. -/
def frame (p : List Int) (src seq net : Int) : List Int := p ++ [src / 256 % 256, src % 256, seq / 256 % 256, seq % 256, 160 + net, 0, (p.length : Int) / 256 % 256, (p.length : Int) % 256]
theorem frame_len (p : List Int) (src seq net : Int) : (frame p src seq net).length = p.length + 8 := by simp [frame]
def word (x : Int) : Bool := decide (0 ≤ x) && decide (x ≤ 65535)
/-- The two copies, the next number, the error. -/
abbrev Sent : Type := (List Int × List Int) × Int × Int
def sendT (p : List Int) (src seq : Int) : Sent :=
  if (word src && word seq) = false then (([], []), 0, 2) else if 1500 < p.length then (([], []), 0, 4) else ((frame p src seq 0, frame p src seq 1), (seq + 1) % 65536, 0)
def RetSend (w : World) (z : Sent) (e : Ending) (w' : World) : Prop :=
  ∃ a0 c0 a1 c1, e = .returned (.tuple #[.agg #[.slice a0 z.1.1.length c0, .slice a1 z.1.2.length c1], .int .i64 z.2.1, .int .i64 z.2.2]) ∧ Ext w w' ∧ RB (Old w) w' (.slice a0 z.1.1.length c0) z.1.1 ∧ RB (Old w) w' (.slice a1 z.1.2.length c1) z.1.2
theorem RetSend.err {w w' : World} (er : Int) (h : Ext w w') : RetSend w (([], []), 0, er) (.returned (.tuple #[.agg #[.slice none 0 0, .slice none 0 0], .int .i64 0, .int .i64 er])) w' :=
  ⟨none, 0, none, 0, rfl, h, RB.nil _ _, RB.nil _ _⟩

/-! ### An iterator over the networks -/
/-- It lies in block r: which of the two have come. -/
structure NetIt (w : World) (r bm : Nat) (d0 d1 : Bool) : Prop where
  lt : bm < r
  map : w.heap[bm]? = some (.map netEs 2)
  it : ∃ seen c0, w.heap[r]? = some (.mapIter (some bm) 2 seen c0) ∧ 2 ≤ c0 ∧ seen.contains 0 = d0 ∧ seen.contains 1 = d1
theorem NetIt.size {w : World} {r bm : Nat} {d0 d1 : Bool} (h : NetIt w r bm d0 d1) : r < w.heap.size := by
  obtain ⟨_, _, h1, _⟩ := h.it
  exact (Array.getElem?_eq_some_iff.1 h1).1
theorem NetIt.agree {V : Nat → Prop} {w w' : World} {r bm : Nat} {d0 d1 : Bool} (h : NetIt w r bm d0 d1) (ha : Agree V w w') (hr : ¬ V r) (hb : ¬ V bm) : NetIt w' r bm d0 d1 := by
  have hs := h.size
  refine ⟨h.lt, (ha.2 bm (by have := h.lt; omega) hb).trans h.map, ?_⟩
  obtain ⟨seen, c0, h1, h2⟩ := h.it
  exact ⟨seen, c0, (ha.2 r hs hr).trans h1, h2⟩
theorem NetIt.ext {w w' : World} {r bm : Nat} {d0 d1 : Bool} (h : NetIt w r bm d0 d1) (he : Ext w w') : NetIt w' r bm d0 d1 := h.agree (he.agree (fun _ => False)) id id
theorem NetIt.start {w : World} {bm : Nat} (h : w.heap[bm]? = some (.map netEs 2)) : NetIt (w.alloc (.mapIter (some bm) 2 #[] 2)) w.heap.size bm false false :=
  ⟨(Array.getElem?_eq_some_iff.1 h).1, by rw [heap_alloc_old w _ (Array.getElem?_eq_some_iff.1 h).1, h], #[], 2, heap_alloc_new w _, Nat.le_refl _, by simp, by simp⟩
def bit1 (d : Bool) : Nat := if d then 0 else 1
/-- How many are still to come. -/
def itLeft (w : World) (r : Nat) : Nat := bit1 ((w.iterSeen r).contains 0) + bit1 ((w.iterSeen r).contains 1)
theorem NetIt.left {w : World} {r bm : Nat} {d0 d1 : Bool} (h : NetIt w r bm d0 d1) : itLeft w r = bit1 d0 + bit1 d1 := by
  obtain ⟨seen, c0, h1, _, h2, h3⟩ := h.it
  unfold itLeft World.iterSeen
  rw [h1]
  simp only [h2, h3]
open Go.ChangeMaps (setBlock) in
theorem net_next {w : World} {r bm : Nat} {d0 d1 : Bool} (ty : TypeId) (h : NetIt w r bm d0 d1) :
    (d0 = true ∧ d1 = true ∧ (Instr.next (.pointer (some ⟨r, 0, none⟩)) false ty).run Try.prog w = .ok (.tuple #[.bool false]) w) ∨
    ∃ (net : Int) (w' : World), (net = 0 ∧ d0 = false ∨ net = 1 ∧ d1 = false) ∧ NetIt w' r bm (d0 || decide (net = 0)) (d1 || decide (net = 1)) ∧ Below r w w' ∧ Agree (fun g => g = r) w w' ∧
      (Instr.next (.pointer (some ⟨r, 0, none⟩)) false ty).run Try.prog w = .ok (.tuple #[.bool true, .int .u8 (160 + net), .int .i64 net]) w' ∧
      (Instr.entry (.pointer (some ⟨r, 0, none⟩))).run Try.prog w' = .ok (.tuple #[.int .u8 (160 + net), .int .i64 net]) w' := by
  obtain ⟨seen, c0, h1, h2, h3, h4⟩ := h.it
  have hlt := h.size
  rcases run_next_at (P := Try.prog) w ty r bm 2 c0 seen netEs 2 h1 h.map (by intro x hx; simp [netEs] at hx; rcases hx with rfl | rfl <;> decide) h2 with ⟨hz, hrun⟩ | ⟨e, he, w1, hw1, hrun⟩
  · left
    have ha := all_seen netEs seen hz
    have e0 := ha { key := .int .u8 160, val := .int .i64 0, born := 0 } (by simp [netEs])
    have e1 := ha { key := .int .u8 161, val := .int .i64 1, born := 1 } (by simp [netEs])
    exact ⟨h3 ▸ e0, h4 ▸ e1, hrun⟩
  · right
    have hm := mem_left he
    have hnod : (netEs.toList.map (·.born)).Nodup := by decide
    have hw1s : w1.heap = w.heap := by rcases hw1 with rfl | rfl <;> rfl
    have hb' : ∀ o : Obj, (setBlock w1 r o).heap = w.heap.setIfInBounds r o := fun o => by
      show w1.heap.setIfInBounds r o = _
      rw [hw1s]
    have hA : ∀ o : Obj, Agree (fun g => g = r) w (setBlock w1 r o) := fun o => ⟨by rw [hb']; simp, fun k _ hk => by rw [hb', Array.getElem?_setIfInBounds_ne (fun e => hk e.symm)]⟩
    have hB : ∀ o : Obj, Below r w (setBlock w1 r o) := fun o => ⟨by rcases hw1 with rfl | rfl <;> rfl, by rcases hw1 with rfl | rfl <;> rfl, by rcases hw1 with rfl | rfl <;> rfl, by rw [hb']; simp, fun k hk => (hA o).2 k (by omega) (by omega)⟩
    have hr' : ∀ o : Obj, (setBlock w1 r o).heap[r]? = some o := fun o => by rw [hb', Array.getElem?_setIfInBounds_self_of_lt hlt]
    have hmap : ∀ o : Obj, (setBlock w1 r o).heap[bm]? = some (.map netEs 2) := fun o => ((hA o).2 bm (by have := h.lt; omega) (by have := h.lt; omega)).trans h.map
    have hen := run_entry_at (P := Try.prog) (setBlock w1 r (.mapIter (some bm) 2 (seen.push e.born) 2)) r bm 2 seen netEs 2 e (hr' _) (hmap _) hm.1 hnod
    have hcases : e = { key := .int .u8 160, val := .int .i64 0, born := 0 } ∨ e = { key := .int .u8 161, val := .int .i64 1, born := 1 } := by
      have := hm.1
      simpa [netEs] using this
    rcases hcases with rfl | rfl
    · refine ⟨0, _, .inl ⟨rfl, h3 ▸ hm.2⟩, ⟨h.lt, hmap _, _, _, hr' _, Nat.le_refl _, ?_, ?_⟩, hB _, hA _, hrun, hen⟩
      · rw [contains_push, h3]; cases d0 <;> rfl
      · rw [contains_push, h4]; cases d1 <;> rfl
    · refine ⟨1, _, .inr ⟨rfl, h4 ▸ hm.2⟩, ⟨h.lt, hmap _, _, _, hr' _, Nat.le_refl _, ?_, ?_⟩, hB _, hA _, hrun, hen⟩
      · rw [contains_push, h3]; cases d0 <;> rfl
      · rw [contains_push, h4]; cases d1 <;> rfl
theorem wpList_next_net {w : World} {ops : Array Oper} {rest : List Oper} {o : Oper} {a : Act} {Q : Exit → Act → World → Prop} (hg : o.guard = none) (it : Operand) (hop : o.op = Op.next it false) (r bm : Nat) (d0 d1 : Bool)
    (hit : a.eval it = .pointer (some ⟨r, 0, none⟩)) (h : NetIt w r bm d0 d1)
    (hDone : d0 = true → d1 = true → wpList Try.prog ops Q rest (a.put o.dst (.tuple #[.bool false])) w)
    (hMore : ∀ (net : Int) (w' : World), (net = 0 ∧ d0 = false ∨ net = 1 ∧ d1 = false) → NetIt w' r bm (d0 || decide (net = 0)) (d1 || decide (net = 1)) → Below r w w' → Agree (fun g => g = r) w w' →
      (Instr.entry (.pointer (some ⟨r, 0, none⟩))).run Try.prog w' = .ok (.tuple #[.int .u8 (160 + net), .int .i64 net]) w' → wpList Try.prog ops Q rest (a.put o.dst (.tuple #[.bool true, .int .u8 (160 + net), .int .i64 net])) w') :
    wpList Try.prog ops Q (o :: rest) a w := by
  refine wpList_plain hg fun K' hK' => ?_
  unfold Oper.wp
  rcases net_next o.type h with ⟨e0, e1, hrun⟩ | ⟨net, w', h1, h2, h3, h4, hrun, hen⟩
  · simp [execOp, hop, hit, hrun, Result.andThen]
    exact hK' _ _ (hDone e0 e1)
  · simp [execOp, hop, hit, hrun, Result.andThen]
    exact hK' _ _ (hMore net w' h1 h2 h3 h4 hen)
set_option maxRecDepth 100000 in
set_option maxHeartbeats 4000000 in
theorem sendP_bad (a : Option Addr) (n c : Nat) (src seq : Int) (w : World) (h : (word src && word seq) = false) : Calls Try.prog 13 #[.slice a n c, .int .i64 src, .int .i64 seq] w (RetSend w (([], []), 0, 2)) := by
  have HE := Lib.hid (fun w' (h : Ext w w') => RetSend.err 2 h)
  have X0 := Lib.hid ((Ext.refl w).alloc (.cells #[.slice none 0 0, .slice none 0 0] 56))
  unfold word at h
  cases h1 : decide (src < 0)
  · have h1' : decide (0 ≤ src) = true := by simp only [decide_eq_false_iff_not, decide_eq_true_eq] at h1 ⊢; omega
    cases h2 : decide (65536 ≤ src)
    · have h2' : decide (src ≤ 65535) = true := by simp only [decide_eq_false_iff_not, decide_eq_true_eq] at h2 ⊢; omega
      rw [h1', h2'] at h
      cases h3 : decide (seq < 0)
      · have h3' : decide (0 ≤ seq) = true := by simp only [decide_eq_false_iff_not, decide_eq_true_eq] at h3 ⊢; omega
        rw [h3'] at h
        have h4 : decide (65536 ≤ seq) = true := by simp only [Bool.true_and, decide_eq_false_iff_not, decide_eq_true_eq] at h ⊢; omega
        clear h1' h2' h3' h
        go_enter Try.func13, Try.ntmps13
        go_wp2_with fail
        refine bodyPost_ret (v := .tuple #[.agg #[.slice none 0 0, .slice none 0 0], .int .i64 0, .int .i64 2]) (by simp [results, Try.results13, go_sem]) rfl (HE.out _ ?_)
        repeat (first | exact X0.out | refine Ext.setCell ?_ (by simp) _)
      · clear h1' h2' h
        go_enter Try.func13, Try.ntmps13
        go_wp2_with fail
        refine bodyPost_ret (v := .tuple #[.agg #[.slice none 0 0, .slice none 0 0], .int .i64 0, .int .i64 2]) (by simp [results, Try.results13, go_sem]) rfl (HE.out _ ?_)
        repeat (first | exact X0.out | refine Ext.setCell ?_ (by simp) _)
    · clear h1' h
      go_enter Try.func13, Try.ntmps13
      go_wp2_with fail
      refine bodyPost_ret (v := .tuple #[.agg #[.slice none 0 0, .slice none 0 0], .int .i64 0, .int .i64 2]) (by simp [results, Try.results13, go_sem]) rfl (HE.out _ ?_)
      repeat (first | exact X0.out | refine Ext.setCell ?_ (by simp) _)
  · clear h
    go_enter Try.func13, Try.ntmps13
    go_wp2_with fail
    refine bodyPost_ret (v := .tuple #[.agg #[.slice none 0 0, .slice none 0 0], .int .i64 0, .int .i64 2]) (by simp [results, Try.results13, go_sem]) rfl (HE.out _ ?_)
    repeat (first | exact X0.out | refine Ext.setCell ?_ (by simp) _)
set_option maxRecDepth 100000 in
set_option maxHeartbeats 4000000 in
theorem sendP_long (a : Option Addr) (n c : Nat) (src seq : Int) (w : World) (h : (word src && word seq) = true) (hn : 1500 < n) : Calls Try.prog 13 #[.slice a n c, .int .i64 src, .int .i64 seq] w (RetSend w (([], []), 0, 4)) := by
  have HE := Lib.hid (fun w' (h : Ext w w') => RetSend.err 4 h)
  have X0 := Lib.hid ((Ext.refl w).alloc (.cells #[.slice none 0 0, .slice none 0 0] 56))
  unfold word at h
  simp only [Bool.and_eq_true, decide_eq_true_eq] at h
  have h1 : decide (src < 0) = false := by simp only [decide_eq_false_iff_not]; omega
  have h2 : decide (65536 ≤ src) = false := by simp only [decide_eq_false_iff_not]; omega
  have h3 : decide (seq < 0) = false := by simp only [decide_eq_false_iff_not]; omega
  have h4 : decide (65536 ≤ seq) = false := by simp only [decide_eq_false_iff_not]; omega
  have hn2 : (1500 : Int) < n := by omega
  clear h
  go_enter Try.func13, Try.ntmps13
  go_wp2_with fail
  refine bodyPost_ret (v := .tuple #[.agg #[.slice none 0 0, .slice none 0 0], .int .i64 0, .int .i64 4]) (by simp [results, Try.results13, go_sem]) rfl (HE.out _ ?_)
  repeat (first | exact X0.out | refine Ext.setCell ?_ (by simp) _)
theorem info_byteT : (Try.prog.info? 5).map (fun i => (i.zero, i.size, i.bytes)) = some (some (.int .u8 0), 1, 1) := by kernel_rfl
theorem make_frame (n : Nat) (hn : n ≤ 1500) : ∃ cur : Array Value, cur.size = n + 8 ∧ ∀ W : World, (Instr.makeSlice 51 (.int .i64 (n : Int)) (.int .i64 ((n : Int) + 8))).run Try.prog W = .ok (.slice (some ⟨W.heap.size, 0, none⟩) n (n + 8)) (W.alloc (.cells cur 5)) := by
  obtain ⟨i0, hi0, hz0, hz1, hz2⟩ := info_parts info_byteT
  refine ⟨madeCells (Value.int .u8 0).cells ((n + 8) * 1), by rw [size_madeCells]; omega, fun W => ?_⟩
  have := run_make (P := Try.prog) W 51 5 i0 _ Try.underlying51 hi0 hz0 .i64 .i64 n ((n + 8 : Nat) : Int) (by omega) (by omega) (by rw [hz2]; omega) (by omega)
  simp only [Int.toNat_natCast, hz1] at this
  rw [show ((n : Int) + 8) = ((n + 8 : Nat) : Int) by omega]
  exact this
theorem Src.litM (w : World) (cs : Array Value) (t : TypeId) (m B : Nat) (hB : w.heap.size = B) (hk : cs.size = m) (h1 : ∀ u ∈ cs.toList, u.oneCell' = true) : Src (w.alloc (.cells cs t)) 1 (some ⟨B, 0, none⟩) m cs.toList := by
  have h := Src.litB w cs t m B hB hk h1
  exact ⟨by have := h.len; omega, (fun h => by cases h), h.cell, h1⟩
theorem Src.copy {w : World} {A : Option Addr} {m : Nat} {news : List Value} (h : Src w 1 A m news) : 0 < news.length → ∃ ad, A = some ad ∧ ∀ j v, news[j]? = some v → w.cell? (ad.add j) = some v := fun hn => by
  cases A with
  | none => have h1 := h.none_ rfl; have h2 := h.len; omega
  | some ad => exact ⟨ad, rfl, fun j v hv => h.cell ad rfl j v hv⟩
theorem own_splice {w : World} {g n : Nat} {cur : Array Value} {cs : List Value} (h : w.heap[g]? = some (.cells (splice cur.toList 0 cs).toArray 5 (0, 0))) (hc : cur.size = n + 8) (hn : cs.length = n) (hm : n ≤ 1500) : w.ownsRow g 5 1 (.slice (some ⟨g, 0, none⟩) n (n + 8)) n cs := by
  refine ⟨by omega, .inr ⟨g, n + 8, _, rfl, Nat.le_refl _, h, by omega, by unfold maxLen; omega, ?_, ?_⟩⟩
  · simp [splice, hn, hc]
  · simp [splice, hn]
theorem part_len {V : Nat → Prop} {w : World} {a : Option Addr} {l c : Nat} {f : List Int} (h : RB V w (.slice a l c) f) : l = f.length := by
  obtain ⟨a', c', hv, _⟩ := h.form
  simp only [Value.slice.injEq] at hv
  exact hv.2.1
/-- A frame of which the copies that have come are ready. -/
def part (d : Bool) (f : List Int) : List Int := if d then f else []
set_option maxRecDepth 100000 in
set_option maxHeartbeats 8000000 in
theorem sendP_good {V : Nat → Prop} (p : List Int) (v : Value) (src seq : Int) (w : World) (hp : RB V w v p) (h : (word src && word seq) = true) (hn : p.length ≤ 1500) : Calls Try.prog 13 #[v, .int .i64 src, .int .i64 seq] w (RetSend w ((frame p src seq 0, frame p src seq 1), (seq + 1) % 65536, 0)) := by
  obtain ⟨i0, hi0, hz0, hz1, hz2⟩ := info_parts info_byteT
  obtain ⟨cur, hcs, hmk⟩ := make_frame p.length hn
  have HPB := hp.byt
  obtain ⟨a, c, rfl, hc1, hc2⟩ := hp.form
  have HSRC := Lib.hid (fun w1 (he : Ext w w1) => Src.bytes (hp.ext he))
  have HN := Lib.hid (fun w1 => networks_any w1)
  unfold word at h
  simp only [Bool.and_eq_true, decide_eq_true_eq] at h
  have h1 : decide (src < 0) = false := by simp only [decide_eq_false_iff_not]; omega
  have h2 : decide (65536 ≤ src) = false := by simp only [decide_eq_false_iff_not]; omega
  have h3 : decide (seq < 0) = false := by simp only [decide_eq_false_iff_not]; omega
  have h4 : decide (65536 ≤ seq) = false := by simp only [decide_eq_false_iff_not]; omega
  have hsq : (seq + 1).tmod 65536 = (seq + 1) % 65536 := Int.tmod_eq_emod_of_nonneg (by omega)
  have hsw : IntKind.i64.wrap (seq + 1) = seq + 1 := IntWalk.i64_in _ (by omega)
  have HF : Hid (∀ w' a0 c0 a1 c1, Ext w w' → RB (Old w) w' (.slice a0 (p.length + 8) c0) (frame p src seq 0) → RB (Old w) w' (.slice a1 (p.length + 8) c1) (frame p src seq 1) → RetSend w ((frame p src seq 0, frame p src seq 1), (seq + 1) % 65536, 0) (.returned (.tuple #[.agg #[.slice a0 (p.length + 8) c0, .slice a1 (p.length + 8) c1], .int .i64 ((seq + 1) % 65536), .int .i64 0])) w') := fun w' a0 c0 a1 c1 he r0 r1 => ⟨a0, c0, a1, c1, by simp only [frame_len], he, by rw [frame_len]; exact r0, by rw [frame_len]; exact r1⟩
  have HFR : Hid (∀ net, frame p src seq net = p ++ [src / 256 % 256, src % 256, seq / 256 % 256, seq % 256, 160 + net, 0, (p.length : Int) / 256 % 256, (p.length : Int) % 256]) := fun net => rfl
  have HFL : Hid (∀ net, (frame p src seq net).length = p.length + 8) := fun net => frame_len p src seq net
  have HFB : Hid (∀ net, 0 ≤ net → net ≤ 1 → Byt (frame p src seq net)) := fun net k0 k1 => HPB.append (fun x hx => by simp only [List.mem_cons, List.not_mem_nil, or_false] at hx; omega)
  generalize RetSend w ((frame p src seq 0, frame p src seq 1), (seq + 1) % 65536, 0) = R at *
  generalize frame p src seq = fr at *
  clear hp h
  generalize hnn : p.length = n at *
  have HNN := Lib.hid hnn
  have hn2 : ¬ (1500 : Int) < n := by omega
  have hn8 : IntKind.i64.wrap ((n : Int) + 8) = n + 8 := IntWalk.i64_in _ (by omega)
  have HCS := Lib.hid hcs
  have HN15 := Lib.hid hn
  have HSEQ := Lib.hid hsq
  generalize (seq + 1) % 65536 = nx at *
  clear hnn hcs hn HPB hsq
  have R0 := Lib.hid ((Bk.new w #[.slice none 0 0, .slice none 0 0] 56 w.heap.size rfl).alloc (.cells #[.slice none 0 0, .slice none 0 0] 56))
  have C0 := Lib.hid (Bk.new (w.alloc (.cells #[.slice none 0 0, .slice none 0 0] 56)) #[.slice none 0 0, .slice none 0 0] 56 (w.heap.size + 1) (by simp))
  have X0 := Lib.hid (((Ext.refl w).alloc (.cells #[.slice none 0 0, .slice none 0 0] 56)).alloc (.cells #[.slice none 0 0, .slice none 0 0] 56))
  go_enter Try.func13, Try.ntmps13
  go_wp2_with fail
  generalize (w.alloc (.cells #[.slice none 0 0, .slice none 0 0] 56)).alloc (.cells #[.slice none 0 0, .slice none 0 0] 56) = W at *
  refine (HN.out _).mono ?_
  rintro e w1 ⟨rfl, hw1⟩
  have hb1 : w1.heap[W.heap.size]? = some (.map netEs 2) := by rw [hw1]; exact heap_alloc_new _ _
  have R1 := Lib.hid (show Bk w1 w.heap.size 56 #[.slice none 0 0, .slice none 0 0] by rw [hw1]; exact R0.out.alloc _)
  have C1 := Lib.hid (show Bk w1 (w.heap.size + 1) 56 #[.slice none 0 0, .slice none 0 0] by rw [hw1]; exact C0.out.alloc _)
  have X1 := Lib.hid (show Ext w w1 by rw [hw1]; exact X0.out.alloc _)
  have hrg := run_range_map (P := Try.prog) w1 97 5 3 W.heap.size netEs 2 (by kernel_rfl) hb1
  have HB1 := Lib.hid hb1
  have lW := C0.out.lt
  generalize W.heap.size = bm at *
  clear hw1 hb1 R0 C0 X0 HN
  go_wp2_with fail
  have I2 := Lib.hid (NetIt.start HB1.out)
  have R2 := Lib.hid (R1.out.alloc (.mapIter (some bm) 2 #[] 2))
  have C2 := Lib.hid (C1.out.alloc (.mapIter (some bm) 2 #[] 2))
  have X2 := Lib.hid (X1.out.alloc (.mapIter (some bm) 2 #[] 2))
  have lr : w.heap.size + 1 < w1.heap.size := C1.out.lt
  have hsz1 : (Try.prog.info? 5).map (·.size) = some 1 := by kernel_rfl
  generalize w1.alloc (.mapIter (some bm) 2 #[] 2) = w2 at *
  generalize w1.heap.size = r at *
  clear R1 C1 X1 HB1 hrg
  go_loopw [11, 12, 13] (fun _ _ _ wr => ∃ (d0 d1 : Bool) (a0 : Option Addr) (l0 k0 : Nat) (a1 : Option Addr) (l1 k1 : Nat), NetIt wr r bm d0 d1 ∧ Bk wr (w.heap.size + 1) 56 #[.slice a0 l0 k0, .slice a1 l1 k1] ∧ RB (fun g => g ≤ r) wr (.slice a0 l0 k0) (part d0 (fr 0)) ∧ RB (fun g => g ≤ r) wr (.slice a1 l1 k1) (part d1 (fr 1)) ∧ Bk wr w.heap.size 56 #[.slice none 0 0, .slice none 0 0] ∧ Ext w wr) (fun _ _ _ wr => itLeft wr r)
  case atStart => exact ⟨false, false, none, 0, 0, none, 0, 0, I2.out, C2.out, RB.nil _ _, RB.nil _ _, R2.out, X2.out⟩
  case round =>
    obtain ⟨d0, d1, a0, l0, k0, a1, l1, k1, hit, hC, hp0, hp1, hR, hx⟩ := hrel
    clear I2 R2 C2 X2
    have HIT := Lib.hid hit
    have HC := Lib.hid hC
    have HP0 := Lib.hid hp0
    have HP1 := Lib.hid hp1
    have HR := Lib.hid hR
    have HX := Lib.hid hx
    clear hit hC hp0 hp1 hR hx
    go_wp2_with (first | (at_next; refine wpList_next_net rfl _ rfl r bm d0 d1 rfl HIT.out ?_ ?_) | go_in)
    · intro e0 e1
      subst e0 e1
      have hp0 := HP0.out
      have hp1 := HP1.out
      unfold part at hp0 hp1
      simp only [if_true] at hp0 hp1
      obtain rfl : l0 = n + 8 := (part_len hp0).trans (HFL.out 0)
      obtain rfl : l1 = n + 8 := (part_len hp1).trans (HFL.out 1)
      have q0 := HC.out.cell
      have q1 := HR.out.cell
      have f1 := HR.out.frozen
      have HQ0 := Lib.hid hp0
      have HQ1 := Lib.hid hp1
      clear hp0 hp1
      go_wp2_with fail
      have C3 := put_all (vs := [.slice a0 (n + 8) k0, .slice a1 (n + 8) k1]) HR.out rfl
      have X3 := put_ext (a := w) (Nat.le_refl _) [.slice a0 (n + 8) k0, .slice a1 (n + 8) k1] 0 _ HX.out
      have A3 := agree_put (V := fun g => g ≤ r) (B := w.heap.size) (show w.heap.size ≤ r by omega) [.slice a0 (n + 8) k0, .slice a1 (n + 8) k1] 0 wr
      have Q0 := (HQ0.out.agree A3).weak (V' := Old w) (fun g _ hg => by have h1 : g < w.heap.size := hg; show g ≤ r; omega)
      have Q1 := (HQ1.out.agree A3).weak (V' := Old w) (fun g _ hg => by have h1 : g < w.heap.size := hg; show g ≤ r; omega)
      change bodyPost _ _ _ _ _ (put wr w.heap.size 0 [.slice a0 (n + 8) k0, .slice a1 (n + 8) k1])
      generalize put wr w.heap.size 0 [.slice a0 (n + 8) k0, .slice a1 (n + 8) k1] = w3 at *
      have c3 := C3.cell
      exact bodyPost_ret (v := .tuple #[.agg #[.slice a0 (n + 8) k0, .slice a1 (n + 8) k1], .int .i64 nx, .int .i64 0]) (by simp [results, Try.results13, go_sem, c3, HSEQ.out]) rfl (HF.out _ _ _ _ _ X3 Q0 Q1)
    · intro net w3 hnet hit3 hbl hag hen
      have lr3 := hit3.size
      have C3 := Lib.hid (show Bk w3 (w.heap.size + 1) 56 #[.slice a0 l0 k0, .slice a1 l1 k1] from (hag.2 _ HC.out.lt (by omega)).trans HC.out)
      have R3 := Lib.hid (show Bk w3 w.heap.size 56 #[.slice none 0 0, .slice none 0 0] from (hag.2 _ HR.out.lt (by omega)).trans HR.out)
      have X3 := Lib.hid (show Ext w w3 from Below.trans HX.out (Below.mono hbl (by omega)))
      have hag2 : Agree (fun g => g ≤ r) wr w3 := hag.mono (fun g hg => by show g ≤ r; have : g = r := hg; omega)
      have P0 := Lib.hid (HP0.out.agree hag2)
      have P1 := Lib.hid (HP1.out.agree hag2)
      have HITW := Lib.hid HIT.out.left
      clear HP0 HP1 HC HR HX HIT hbl hag hag2
      have I3 := Lib.hid hit3
      clear hit3
      rcases hnet with ⟨rfl, rfl⟩ | ⟨rfl, rfl⟩
      · have I4 := Lib.hid (show NetIt w3 r bm true d1 by simpa using I3.out)
        have HFN := Lib.hid (show fr 0 = p ++ [src / 256 % 256, src % 256, seq / 256 % 256, seq % 256, 160, 0, (n : Int) / 256, (n : Int) % 256] from (HFR.out 0).trans (by have := HN15.out; rw [show (n : Int) / 256 % 256 = (n : Int) / 256 by omega]; rfl))
        go_wp2_with (first
          | (refine wpList_copyK rfl (.tmp 45) (.tmp 46) 51 51 rfl 5 1 Try.underlying51 hsz1 (by omega) (some ⟨w3.heap.size, 0, none⟩) a n (n + 8) n c rfl rfl w3.heap.size 0 cur.toList 5 (by simpa using heap_alloc_new w3 (.cells cur 5)) (p.map (Value.int .u8)) (by simp [HNN.out]) (fun h0 => ⟨rfl, (HSRC.out _ (X3.out.alloc _)).copy h0⟩) (by simp [HCS.out, HNN.out]) (ints_oneCell _ _) ?_
             intro w4 hcp4 hg4
             have O4 := Lib.hid (own_splice hcp4.out HCS.out (by simp [HNN.out]) HN15.out)
             have E4 : Ext w3 w4 := ((Ext.refl w3).alloc (.cells cur 5)).grown hg4 (fun k hk => by cases hk; exact Nat.le_refl _)
             clear hcp4 hg4)
          | (at_builtin; refine wpList_append_src _ rfl (.tmp 49) (.tmp 66) _ rfl w3.heap.size 5 i0 _ 1 1 Try.underlying51 hi0 hz0 hz1 hz2 rfl (by omega) _ n (p.map (Value.int .u8)) rfl (O4.out.alloc _) _ 8 8 [.int .u8 (src / 256 % 256), .int .u8 (src % 256), .int .u8 (seq / 256 % 256), .int .u8 (seq % 256), .int .u8 160, .int .u8 0, .int .u8 ((n : Int) / 256), .int .u8 ((n : Int) % 256)] rfl (Src.litM w4 #[.int .u8 (src / 256 % 256), .int .u8 (src % 256), .int .u8 (seq / 256 % 256), .int .u8 (seq % 256), .int .u8 160, .int .u8 0, .int .u8 ((n : Int) / 256), .int .u8 ((n : Int) % 256)] 5 8 _ (by simp) rfl (by simp [Value.oneCell'])) (by unfold maxLen; have := HN15.out; omega) (by have := HN15.out; omega) (by simp; exact Nat.le_succ_of_le E4.size) ?_
             intro A6 k6 w6 hown6 hg6 hat6
             have E6 : Ext w3 w6 := (E4.alloc _).grown hg6 (fun g hg => by cases hg; exact Nat.le_refl _)
             have Q6 := Lib.hid (show RB (fun g => g ≤ r) w6 (.slice A6 (n + 8) k6) (fr 0) by
               refine RB.of_own (base := w3.heap.size) (e := 5) (by rw [HFL.out, HFN.out]; simpa using hown6) (HFB.out 0 (by omega) (by omega)) (fun g hg => Nat.lt_of_le_of_lt hg lr3))
             have C6 := Lib.hid (C3.out.ext E6)
             have q6 := C6.out.cell
             have f6 := C6.out.frozen
             clear hown6 hg6 hat6)
          | go_in)
        have C7 := C6.out.setCell 0 (.slice A6 (n + 8) k6)
        have A7 := agree_setCell (V := fun g => g ≤ r) (w := w6) (p := ⟨w.heap.size + 1, 0, none⟩) (show w.heap.size + 1 ≤ r by omega) (.slice A6 (n + 8) k6)
        have A7' := agree_setCell (V := fun g => g = w.heap.size + 1) (w := w6) (p := ⟨w.heap.size + 1, 0, none⟩) rfl (.slice A6 (n + 8) k6)
        have Q7 := Q6.out.agree A7
        have P7 := (P1.out.ext E6).agree A7
        have I7 := (I4.out.ext E6).agree A7' (by omega) (by omega)
        have R7 := (R3.out.ext E6).setOther (show w.heap.size + 1 ≠ w.heap.size by omega) 0 (.slice A6 (n + 8) k6)
        have X7 := (X3.out.trans E6).setCell (p := ⟨w.heap.size + 1, 0, none⟩) (show w.heap.size ≤ w.heap.size + 1 by omega) (.slice A6 (n + 8) k6)
        have HI7 := Lib.hid I7
        have HR7 := Lib.hid (And.intro C7 (And.intro Q7 (And.intro P7 (And.intro R7 X7))))
        clear C7 A7 A7' Q7 P7 I7 R7 X7 q6 f6
        go_roundw
        case rel =>
          obtain ⟨C7, Q7, P7, R7, X7⟩ := HR7.out
          exact ⟨true, d1, A6, n + 8, k6, a1, l1, k1, HI7.out, C7, Q7, P7, R7, X7⟩
        case measure => rw [HI7.out.left, HITW.out]; simp [bit1]
      · have I4 := Lib.hid (show NetIt w3 r bm d0 true by simpa using I3.out)
        have HFN := Lib.hid (show fr 1 = p ++ [src / 256 % 256, src % 256, seq / 256 % 256, seq % 256, 161, 0, (n : Int) / 256, (n : Int) % 256] from (HFR.out 1).trans (by have := HN15.out; rw [show (n : Int) / 256 % 256 = (n : Int) / 256 by omega]; rfl))
        go_wp2_with (first
          | (refine wpList_copyK rfl (.tmp 45) (.tmp 46) 51 51 rfl 5 1 Try.underlying51 hsz1 (by omega) (some ⟨w3.heap.size, 0, none⟩) a n (n + 8) n c rfl rfl w3.heap.size 0 cur.toList 5 (by simpa using heap_alloc_new w3 (.cells cur 5)) (p.map (Value.int .u8)) (by simp [HNN.out]) (fun h0 => ⟨rfl, (HSRC.out _ (X3.out.alloc _)).copy h0⟩) (by simp [HCS.out, HNN.out]) (ints_oneCell _ _) ?_
             intro w4 hcp4 hg4
             have O4 := Lib.hid (own_splice hcp4.out HCS.out (by simp [HNN.out]) HN15.out)
             have E4 : Ext w3 w4 := ((Ext.refl w3).alloc (.cells cur 5)).grown hg4 (fun k hk => by cases hk; exact Nat.le_refl _)
             clear hcp4 hg4)
          | (at_builtin; refine wpList_append_src _ rfl (.tmp 49) (.tmp 66) _ rfl w3.heap.size 5 i0 _ 1 1 Try.underlying51 hi0 hz0 hz1 hz2 rfl (by omega) _ n (p.map (Value.int .u8)) rfl (O4.out.alloc _) _ 8 8 [.int .u8 (src / 256 % 256), .int .u8 (src % 256), .int .u8 (seq / 256 % 256), .int .u8 (seq % 256), .int .u8 161, .int .u8 0, .int .u8 ((n : Int) / 256), .int .u8 ((n : Int) % 256)] rfl (Src.litM w4 #[.int .u8 (src / 256 % 256), .int .u8 (src % 256), .int .u8 (seq / 256 % 256), .int .u8 (seq % 256), .int .u8 161, .int .u8 0, .int .u8 ((n : Int) / 256), .int .u8 ((n : Int) % 256)] 5 8 _ (by simp) rfl (by simp [Value.oneCell'])) (by unfold maxLen; have := HN15.out; omega) (by have := HN15.out; omega) (by simp; exact Nat.le_succ_of_le E4.size) ?_
             intro A6 k6 w6 hown6 hg6 hat6
             have E6 : Ext w3 w6 := (E4.alloc _).grown hg6 (fun g hg => by cases hg; exact Nat.le_refl _)
             have Q6 := Lib.hid (show RB (fun g => g ≤ r) w6 (.slice A6 (n + 8) k6) (fr 1) by
               refine RB.of_own (base := w3.heap.size) (e := 5) (by rw [HFL.out, HFN.out]; simpa using hown6) (HFB.out 1 (by omega) (by omega)) (fun g hg => Nat.lt_of_le_of_lt hg lr3))
             have C6 := Lib.hid (C3.out.ext E6)
             have q6 := C6.out.cell
             have f6 := C6.out.frozen
             clear hown6 hg6 hat6)
          | go_in)
        have C7 := C6.out.setCell 1 (.slice A6 (n + 8) k6)
        have A7 := agree_setCell (V := fun g => g ≤ r) (w := w6) (p := ⟨w.heap.size + 1, 1, none⟩) (show w.heap.size + 1 ≤ r by omega) (.slice A6 (n + 8) k6)
        have A7' := agree_setCell (V := fun g => g = w.heap.size + 1) (w := w6) (p := ⟨w.heap.size + 1, 1, none⟩) rfl (.slice A6 (n + 8) k6)
        have Q7 := Q6.out.agree A7
        have P7 := (P0.out.ext E6).agree A7
        have I7 := (I4.out.ext E6).agree A7' (by omega) (by omega)
        have R7 := (R3.out.ext E6).setOther (show w.heap.size + 1 ≠ w.heap.size by omega) 1 (.slice A6 (n + 8) k6)
        have X7 := (X3.out.trans E6).setCell (p := ⟨w.heap.size + 1, 1, none⟩) (show w.heap.size ≤ w.heap.size + 1 by omega) (.slice A6 (n + 8) k6)
        have HI7 := Lib.hid I7
        have HR7 := Lib.hid (And.intro C7 (And.intro Q7 (And.intro P7 (And.intro R7 X7))))
        clear C7 A7 A7' Q7 P7 I7 R7 X7 q6 f6
        go_roundw
        case rel =>
          obtain ⟨C7, Q7, P7, R7, X7⟩ := HR7.out
          exact ⟨d0, true, a0, l0, k0, A6, n + 8, k6, HI7.out, C7, P7, Q7, R7, X7⟩
        case measure => rw [HI7.out.left, HITW.out]; simp [bit1]
theorem sendP_any {V : Nat → Prop} (p : List Int) (v : Value) (src seq : Int) (w : World) (hp : RB V w v p) : Calls Try.prog 13 #[v, .int .i64 src, .int .i64 seq] w (RetSend w (sendT p src seq)) := by
  unfold sendT
  cases h : word src && word seq
  · rw [if_pos rfl]
    obtain ⟨a, c, rfl, _, _⟩ := hp.form
    exact sendP_bad a _ c src seq w h
  · rw [if_neg (by simp)]
    by_cases hn : 1500 < p.length
    · rw [if_pos hn]
      obtain ⟨a, c, rfl, _, _⟩ := hp.form
      exact sendP_long a _ c src seq w h hn
    · rw [if_neg hn]
      exact sendP_good p v src seq w hp h (by omega)
end Go.Proofs.Ytimnepfdpehdmaa
