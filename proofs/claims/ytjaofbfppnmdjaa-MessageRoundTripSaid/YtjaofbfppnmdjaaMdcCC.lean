/- Contracts of refuse, of the deferred closure, of ordered and of field: decoding of messages, layer 12. -/
import Derived.Test.YtjaofbfppnmdjaaMsgNN
import Derived.Test.YtjaofbfppnmdjaaDecZZ
import Derived.Test.YtjaofbfppnmdjaaMsgF
import Derived.Defers
import Derived.Recover
import Derived.Laws.Pointers
import Derived.Test.YtjaofbfppnmdjaaMsgE
import Derived.Test.YtjaofbfppnmdjaaMsgK
import Derived.Test.YtjaofbfppnmdjaaMsgR
namespace Go.Proofs.Ytjaofbfppnmdjaa
open Go.RowKit
attribute [local go_sem ↓] Go.wp_at_zero Go.wp_at_succ

/-- The panic that ends decoding. -/
abbrev refusal (e : Int) : PanicEntry := { v := .iface 112 (.agg #[.int .i64 e]), recovered := false }
theorem refuse_ok (w : World) : Calls Try.prog 64 #[.int .i64 0] w fun e w' => e = .returned (.tuple #[]) ∧ w = w' := by
  go_enter Try.func64, Try.ntmps64
  go_wp2_with fail
  exact ⟨rfl, _, results_none rfl _ _ _, rfl, rfl⟩
theorem refuse_bad (er : Int) (he : er ≠ 0) (w : World) : Calls Try.prog 64 #[.int .i64 er] w fun e w' => e = .panicked [refusal er] ∧ w = w' := by
  have heb : (er != 0) = true := by simpa using he
  go_enter Try.func64, Try.ntmps64
  go_wp2_with fail
  exact ⟨rfl, rfl, rfl⟩
set_option maxRecDepth 100000 in
set_option maxHeartbeats 2000000 in
theorem dec1_panic (B : Nat) (er x : Int) (older : List PanicEntry) (cm : Array Value) (w : World) (h1 : Bk w B 71 cm) (hs : cm.size = 10) (h2 : Bk w (B + 1) 26 #[.int .i64 x]) :
    CallsD Try.prog 63 #[.pointer (some ⟨B, 0, none⟩), .pointer (some ⟨B + 1, 0, none⟩)] (.panicking (refusal er :: older)) w fun e u' w' =>
      e = .returned (.tuple #[]) ∧ u' = .panicking ({ refusal er with recovered := true } :: older) ∧ Bk w' B 71 #[.int .i64 0, .int .i64 0, .int .i64 0, .int .i64 0, .int .i64 0, .int .i64 0, .int .i64 0, .bool false, .int .i64 0, .slice none 0 0] ∧ Bk w' (B + 1) 26 #[.int .i64 er] ∧ (∀ a : World, a.heap.size ≤ B → Ext a w → Ext a w') := by
  have hta : ∀ (x : Value) (W : World), (Instr.typeAssert (.iface 112 x) 20 112 true).run Try.prog W = .ok (.tuple #[x, .bool true]) W := fun x W => by kernel_rfl
  refine callsD_of_wpS Try.func63 rfl fun c₀ cs hu => ?_
  apply wpS_seq
  apply wpS_region
  simp [wpOpsS, go_sem, recoverD, hu, Try.ntmps63, Exit.thenS]
  refine wpS_of_wp ?_
  have hrep : Array.replicate 12 undef = #[undef, undef, undef, undef, undef, undef, undef, undef, undef, undef, undef, undef] := rfl
  rw [hrep]
  simp only [List.append_toArray, List.cons_append, List.nil_append, List.setIfInBounds_toArray, List.set_cons_succ, List.set_cons_zero]
  clear hrep
  go_upto_region 7 with fail
  have C1 := Bk.new w #[.int .i64 er] 112 w.heap.size rfl
  have B1 := h1.alloc (.cells #[.int .i64 er] 112)
  have B2 := h2.alloc (.cells #[.int .i64 er] 112)
  have hlt : B + 1 < w.heap.size := h2.lt
  have HX : Hid (∀ a : World, a.heap.size ≤ B → Ext a w → Ext a (w.alloc (.cells #[.int .i64 er] 112))) := fun a _ he => he.alloc _
  generalize w.alloc (.cells #[.int .i64 er] 112) = W at *
  generalize w.heap.size = R at *
  have q0 : W.cell? ⟨R, 0, none⟩ = some (.int .i64 er) := C1.cell 0
  have f1 := fun j => B1.frozen j
  have f2 := fun j => B2.frozen j
  have q1 := B1.cell
  have q2 : ∀ j, W.cell? ⟨B + 1, j, none⟩ = (#[.int .i64 x] : Array Value)[j]? := B2.cell
  have hne1 : ¬ R = B := by omega
  have hne2 : ¬ R = B + 1 := by omega
  clear h1 h2
  go_region_held3 (fun w' => w'.cell? ⟨R, 0, none⟩ = some (.int .i64 er))
    (first | (with_reducible exact q0) | (simp only [World.cell?_drew]; (repeat rw [World.cell?_setCell_other _ _ _ _ (by intro h; injection h; omega)]); exact q0) | ((repeat rw [World.cell?_setCell_other _ _ _ _ (by intro h; injection h; omega)]); exact q0) | fail)
    (fail)
  change Exit.inBlock 0 _ Exit.normal _ ((put W B 0 [.int .i64 0, .int .i64 0, .int .i64 0, .int .i64 0, .int .i64 0, .int .i64 0, .int .i64 0, .bool false, .int .i64 0, .slice none 0 0]).setCell ⟨B + 1, 0, none⟩ (.int .i64 er)).drew
  have P1 := put_all (vs := [.int .i64 0, .int .i64 0, .int .i64 0, .int .i64 0, .int .i64 0, .int .i64 0, .int .i64 0, .bool false, .int .i64 0, .slice none 0 0]) B1 (by rw [hs]; rfl)
  have P2 := put_other (B := B + 1) (B' := B) (by omega) [.int .i64 0, .int .i64 0, .int .i64 0, .int .i64 0, .int .i64 0, .int .i64 0, .int .i64 0, .bool false, .int .i64 0, .slice none 0 0] 0 W B2
  have E1 : Bk ((put W B 0 [.int .i64 0, .int .i64 0, .int .i64 0, .int .i64 0, .int .i64 0, .int .i64 0, .int .i64 0, .bool false, .int .i64 0, .slice none 0 0]).setCell ⟨B + 1, 0, none⟩ (.int .i64 er)).drew B 71 #[.int .i64 0, .int .i64 0, .int .i64 0, .int .i64 0, .int .i64 0, .int .i64 0, .int .i64 0, .bool false, .int .i64 0, .slice none 0 0] := (P1.setOther (B' := B + 1) (by omega) 0 (.int .i64 er)).drew
  have E2 : Bk ((put W B 0 [.int .i64 0, .int .i64 0, .int .i64 0, .int .i64 0, .int .i64 0, .int .i64 0, .int .i64 0, .bool false, .int .i64 0, .slice none 0 0]).setCell ⟨B + 1, 0, none⟩ (.int .i64 er)).drew (B + 1) 26 #[.int .i64 er] := (P2.setCell 0 (.int .i64 er)).drew
  have EX : ∀ a : World, a.heap.size ≤ B → Ext a w → Ext a ((put W B 0 [.int .i64 0, .int .i64 0, .int .i64 0, .int .i64 0, .int .i64 0, .int .i64 0, .int .i64 0, .bool false, .int .i64 0, .slice none 0 0]).setCell ⟨B + 1, 0, none⟩ (.int .i64 er)).drew := fun a ha he => ((put_ext ha [.int .i64 0, .int .i64 0, .int .i64 0, .int .i64 0, .int .i64 0, .int .i64 0, .int .i64 0, .bool false, .int .i64 0, .slice none 0 0] 0 W (HX.out a ha he)).setCell (Nat.le_succ_of_le ha) _).drew
  generalize ((put W B 0 [.int .i64 0, .int .i64 0, .int .i64 0, .int .i64 0, .int .i64 0, .int .i64 0, .int .i64 0, .bool false, .int .i64 0, .slice none 0 0]).setCell ⟨B + 1, 0, none⟩ (.int .i64 er)).drew = W9 at *
  try simp only [Exit.inBlock]
  exact ⟨rfl, _, rfl, _, results_none rfl _ _ _, rfl, rfl, E1, E2, EX⟩
theorem dec1_idle (p q : Value) (w : World) : CallsD Try.prog 63 #[p, q] .returning w fun e u' w' => e = .returned (.tuple #[]) ∧ u' = .returning ∧ w' = w := by
  refine callsD_of_wpS Try.func63 rfl fun c₀ cs hu => ?_
  apply wpS_seq
  apply wpS_region
  simp [wpOpsS, go_sem, recoverD, hu, Try.ntmps63, Exit.thenS]
  refine wpS_of_wp ?_
  have hrep : Array.replicate 12 undef = #[undef, undef, undef, undef, undef, undef, undef, undef, undef, undef, undef, undef] := rfl
  rw [hrep]
  simp only [List.append_toArray, List.cons_append, List.nil_append, List.setIfInBounds_toArray, List.set_cons_succ, List.set_cons_zero]
  clear hrep
  go_wp2_with fail
  try simp only [Exit.inBlock]
  exact ⟨rfl, _, by rw [← hu], _, results_none rfl _ _ _, rfl, rfl, rfl⟩
end Go.Proofs.Ytjaofbfppnmdjaa

namespace Go.Proofs.Ytjaofbfppnmdjaa
open Go.RowKit
attribute [local go_sem ↓] Go.wp_at_zero Go.wp_at_succ

/-- The tag of node k. -/
def tagAt {α : Type} (l : List (NodeOf α)) (k : Nat) : Option Int := (l[k]?).map fun x => x.1
/-- Do nodes bear the tags of a message's parts? -/
def ordOk {α : Type} (l : List (NodeOf α)) : Prop := l.length = 8 ∧ tagAt l 7 = some 167 ∧ ∀ k : Nat, k < 7 → tagAt l k = some (128 + (k : Int))
open Classical in
set_option maxHeartbeats 4000000 in
theorem ordered_any {α : Type} (R : Rk α) {V : Nat → Prop} (l : List (NodeOf α)) (v : Value) (w : World) (h : (nodesRk R).rk V w v l) : Calls Try.prog 65 #[v] w fun e w' => e = .returned (.bool (decide (ordOk l))) ∧ w = w' := by
  obtain ⟨a, c, rfl, hc1, hc2⟩ := (nodesRk R).form h
  have HG : Hid (∀ k, k < l.length → ∃ b off c' t, (Value.slice a l.length c) = .slice (some ⟨b, off, none⟩) l.length c' ∧ w.cell? ⟨b, off + k * 3, none⟩ = some (.int .i64 t) ∧ tagAt l k = some t) := fun k hk => by
    obtain ⟨b, off, c', da, dc, ka, kc, hv, _, _, g0, _, _, _, _⟩ := node_at h hk
    exact ⟨b, off, c', _, hv, g0, by unfold tagAt; rw [List.getElem?_eq_getElem hk]; rfl⟩
  obtain ⟨r, hr⟩ : ∃ r, decide (ordOk l) = r := ⟨_, rfl⟩
  rw [hr]
  have HR := Lib.hid hr
  have HNO : Hid (¬ ordOk l → r = false) := fun h => by rw [← hr]; exact decide_eq_false h
  have HYES : Hid (ordOk l → r = true) := fun h => by rw [← hr]; exact decide_eq_true h
  clear hr h
  by_cases h8 : l.length = 8
  · obtain ⟨b, off, c', t7, hv, g7, ht7⟩ := HG.out 7 (by omega)
    simp only [Value.slice.injEq] at hv
    obtain ⟨rfl, -, rfl⟩ := hv
    rw [h8] at HG hc1 ⊢
    have HT7 := Lib.hid ht7
    have HL8 := Lib.hid h8
    simp only [Nat.reduceMul] at g7
    clear ht7 h8
    by_cases h167 : t7 = 167
    · subst h167
      go_enter Try.func65, Try.ntmps65
      go_wp2_with fail
      go_loop [14] (fun i => ∃ k : Nat, k ≤ 7 ∧ i = .int .i64 k ∧ ∀ j : Nat, j < k → tagAt l j = some (128 + (j : Int))) (fun i => 7 - (intOf i).toNat)
      case atStart => exact ⟨0, by omega, rfl, fun j h => by omega⟩
      case round =>
        obtain ⟨k, hk, rfl, hall⟩ := hrel
        have HALL := Lib.hid hall
        clear hall
        by_cases hlt : k < 7
        · obtain ⟨b', off', c'', t, hv, g0, ht⟩ := HG.out k (by omega)
          simp only [Value.slice.injEq, Option.some.injEq, Addr.mk.injEq, and_true, true_and] at hv
          obtain ⟨⟨rfl, rfl⟩, rfl⟩ := hv
          have hki : (k : Int) < 7 := by omega
          have HTK := Lib.hid ht
          by_cases hte : t = 128 + (k : Int)
          · have hne : (t != 128 + (k : Int)) = false := by simpa using hte
            have HTE := Lib.hid hte
            clear ht hte
            go_wp2_with fail
            go_round
            case rel => exact ⟨k + 1, by omega, by go_num, fun j hj => by
              by_cases hjk : j = k
              · subst hjk; rw [HTK.out, HTE.out]
              · exact HALL.out j (by omega)⟩
            case measure => simp [intOf]; omega
          · have hne : (t != 128 + (k : Int)) = true := by simpa using hte
            have HE := Lib.hid (HNO.out (fun h => by
              have := h.2.2 k hlt
              rw [ht] at this
              injection this with this
              exact hte this))
            clear ht hte
            go_wp2_with fail
            go_ret
            exact ⟨by rw [HE.out]; rfl, rfl⟩
        · have hki : ¬ (k : Int) < 7 := by omega
          have HE := Lib.hid (HYES.out ⟨HL8.out, HT7.out, fun j hj => HALL.out j (by omega)⟩)
          go_wp2_with fail
          go_ret
          exact ⟨by rw [HE.out]; rfl, rfl⟩
    · have hne : (t7 != 167) = true := by simpa using h167
      have HE := Lib.hid (HNO.out (fun h => by
        have := h.2.1
        rw [HT7.out] at this
        injection this with this
        exact h167 this))
      clear h167
      go_enter Try.func65, Try.ntmps65
      go_wp2_with fail
      go_ret
      exact ⟨by rw [HE.out]; rfl, rfl⟩
  · have HE := Lib.hid (HNO.out (fun h => h8 h.1))
    have hne : ((l.length : Int) != 8) = true := by simp only [bne_iff_ne, ne_eq]; omega
    clear HG HNO HYES h8
    generalize l.length = n at *
    go_enter Try.func65, Try.ntmps65
    go_wp2_with fail
    go_ret
    exact ⟨by rw [HE.out]; rfl, rfl⟩
/-- A value of a kind that bears nothing. -/
def bareV (k : Int) : Val := ⟨k, 0, noStr, 0, 0, 0⟩
/-- What field does. -/
def RetFd (w : World) (r : Option Val) (e : Ending) (w' : World) : Prop := Ext w w' ∧ match r with
  | some v => e = .returned (valA v)
  | none => e = .panicked [refusal 16]
theorem bare_ok : ∀ k : Int, (k = 1 ∨ k = 2 ∨ k = 5) → chk (bareV k) = 0 ∧ kindT (tagV (bareV k)) = k ∧ vErr [bareV k] = 0 := by
  intro k hk
  rcases hk with rfl | rfl | rfl <;> decide +kernel
set_option maxRecDepth 100000 in
set_option maxHeartbeats 8000000 in
theorem field_any {V : Nat → Prop} (k : Int) (hk : k = 1 ∨ k = 2 ∨ k = 5) (t : Int) (D : List Int) (dv kv : Value) (w : World) (h : RB V w dv D) : Calls Try.prog 66 #[.agg #[.int .i64 t, dv, kv], .int .i64 k] w (RetFd w (readV (tagV (bareV k)) D)) := by
  obtain ⟨hb1, hb2, hb3⟩ := bare_ok k hk
  have HNP := Lib.hid (fun w1 B (hB : w1.heap.size = B) => nodesP_any 0 [bareV k] _ _ (RF.single w1 #[.int .i64 k, .int .i64 0, .string ⟨#[]⟩, .int .i64 0, .int .i64 0, .int .i64 0] (bareV k) B hB rfl) (by simp))
  have HND : Hid (∀ (w1 w2 : World) (u : Value), (nodesRk (RkN 0)).rk (Old w1) w2 u ([bareV k].map (nodeV 0)) → ∃ b off c, u = .slice (some ⟨b, off, none⟩) 1 c ∧ w2.cell? ⟨b, off, none⟩ = some (.int .i64 (tagV (bareV k)))) := fun w1 w2 u hu => by
    obtain ⟨b, off, c, da, dc, ka, kc, hv, _, _, g0, _, _, _, _⟩ := node_at hu (i := 0) (by simp)
    refine ⟨b, off, c, by simpa using hv, ?_⟩
    have : w2.cell? ⟨b, off + 0 * 3, none⟩ = some (.int .i64 (tagV (bareV k))) := g0
    simpa using this
  have hval : valsE [((tagV (bareV k), D, []) : NodeOf (Nd 0))] = if readV (tagV (bareV k)) D = none then 16 else 0 := by
    have hkz : kindT (tagV (bareV k)) ≠ 0 := by rw [hb2]; omega
    have e1 : errV ((tagV (bareV k), D, []) : NodeOf (Nd 0)) = if readV (tagV (bareV k)) D = none then 16 else 0 := by
      unfold errV
      rw [if_neg (by rintro (h | h); exact hkz h; simp at h)]
    unfold valsE
    rw [List.map_cons, List.map_nil, e1]
    split <;> rfl
  have HVO : Hid (∀ v, readV (tagV (bareV k)) D = some v → valsV [((tagV (bareV k), D, []) : NodeOf (Nd 0))] = [v]) := fun v hv => by
    unfold valsV
    rw [if_pos (by rw [hval, hv]; rfl)]
    have : valsOf [((tagV (bareV k), D, []) : NodeOf (Nd 0))] = [v] := by unfold valsOf; simp [hv]
    exact this
  have HVN : Hid (readV (tagV (bareV k)) D = none → valsV [((tagV (bareV k), D, []) : NodeOf (Nd 0))] = []) := fun hv => by
    unfold valsV
    rw [if_neg (by rw [hval, hv]; decide)]
  have HVE := Lib.hid hval
  have HBV := Lib.hid hb3
  obtain ⟨da, dc, rfl, _, _⟩ := h.form
  have HVP : Hid (∀ (w1 W1 : World) B, w1.heap.size = B → Ext w w1 → Ext (w1.alloc (.cells #[.int .i64 (tagV (bareV k)), .slice da D.length dc, .slice none 0 0] 45)) W1 → Calls Try.prog 34 #[.slice (some ⟨B, 0, none⟩) 1 1] W1 (RetVE W1 (valsV [((tagV (bareV k), D, []) : NodeOf (Nd 0))]) (valsE [((tagV (bareV k), D, []) : NodeOf (Nd 0))]))) := fun w1 W1 B hB he hx =>
    valuesP_any (RkN 0) [((tagV (bareV k), D, []) : NodeOf (Nd 0))] _ _ (V := Any) ((nodesRk (RkN 0)).ext (RS.one w1 _ _ B hB _ rfl ⟨_, _, rfl, ((h.any).ext he).ext ((Ext.refl _).alloc _), rk_nil 0 _ _⟩ (fun h => h)) hx) (by simp)
  clear h hval hb1 hb2 hb3
  generalize valsV [((tagV (bareV k), D, []) : NodeOf (Nd 0))] = VL at *
  generalize valsE [((tagV (bareV k), D, []) : NodeOf (Nd 0))] = VE at *
  generalize readV (tagV (bareV k)) D = rv at *
  generalize tagV (bareV k) = tg at *
  generalize D.length = dl at *
  go_enter Try.func66, Try.ntmps66
  go_upto_region 1 with fail
  have B0 := (Bk.new w #[.int .i64 t, .slice da dl dc, kv] 45 w.heap.size rfl).alloc (.cells #[.int .i64 0, .int .i64 0, .string ⟨#[]⟩, .int .i64 0, .int .i64 0, .int .i64 0] 43)
  have B1 := Bk.new (w.alloc (.cells #[.int .i64 t, .slice da dl dc, kv] 45)) #[.int .i64 0, .int .i64 0, .string ⟨#[]⟩, .int .i64 0, .int .i64 0, .int .i64 0] 43 (w.heap.size + 1) (by simp)
  have X0 : Ext w ((w.alloc (.cells #[.int .i64 t, .slice da dl dc, kv] 45)).alloc (.cells #[.int .i64 0, .int .i64 0, .string ⟨#[]⟩, .int .i64 0, .int .i64 0, .int .i64 0] 43)) := ((Ext.refl w).alloc _).alloc _
  generalize (w.alloc (.cells #[.int .i64 t, .slice da dl dc, kv] 45)).alloc (.cells #[.int .i64 0, .int .i64 0, .string ⟨#[]⟩, .int .i64 0, .int .i64 0, .int .i64 0] 43) = W at *
  have q0 : ∀ j, W.cell? ⟨w.heap.size, j, none⟩ = (#[.int .i64 t, .slice da dl dc, kv] : Array Value)[j]? := B0.cell
  go_wp2_with fail
  refine (HNP.out W _ rfl).mono ?_
  rintro e w2 (⟨he, _⟩ | ⟨_, a2, c2, rfl, x2, r2⟩)
  · exact absurd HBV.out he
  obtain ⟨b, off, cc, hu, g0⟩ := HND.out _ _ _ r2
  simp only [List.length_cons, List.length_nil, Nat.zero_add, Value.slice.injEq, true_and] at hu
  obtain ⟨rfl, rfl⟩ := hu
  have E2 : Ext W w2 := ((Ext.refl W).alloc _).trans x2
  have X2 := X0.trans E2
  have B02 := B0.ext E2
  have B12 := B1.ext E2
  have q2 : ∀ j, w2.cell? ⟨w.heap.size, j, none⟩ = (#[.int .i64 t, .slice da dl dc, kv] : Array Value)[j]? := B02.cell
  clear r2 x2 q0 B0 B1 X0 E2
  simp only [List.length_cons, List.length_nil, Nat.zero_add]
  go_upto_region 4 with fail
  have HBC : Hid (∀ w', Ext w2 w' → w'.cell? ⟨b, off, none⟩ = some (.int .i64 tg) ∧ ∀ j, w'.cell? ⟨w.heap.size, j, none⟩ = (#[.int .i64 t, .slice da dl dc, kv] : Array Value)[j]?) := fun w' he => ⟨he.cell g0, (B02.ext he).cell⟩
  have HV2 := Lib.hid (HVP.out w2 _ w2.heap.size rfl X2 (Ext.refl _).drew)
  clear q2 g0 B02
  go_region_held3 (fun w' => w'.cell? ⟨b, off, none⟩ = some (.int .i64 tg) ∧ ∀ j, w'.cell? ⟨w.heap.size, j, none⟩ = (#[.int .i64 t, .slice da dl dc, kv] : Array Value)[j]?)
    (first | (exact HBC.out _ (by first | (with_reducible exact (Ext.refl w2).drew) | (with_reducible exact ((Ext.refl w2).alloc _).drew) | (with_reducible exact D1))) | fail)
    (first
      | (go_at_call 34; (with_reducible refine HV2.out.mono ?_); rintro e y1 ⟨a5, c5, rfl, t1, r5⟩; have D1 : Ext w2 y1 := ((Ext.refl w2).alloc _).drew.trans t1; have R5 := Lib.hid (r5 Any (fun _ h => h.elim)); clear r5; clear t1)
      | fail)
  have X4 := X2.trans D1
  have B14 := B12.ext D1
  clear HBC HV2 HVP HNP HND B12 X2 D1
  cases rv with
  | none =>
    have hve : VE = 16 := by rw [HVE.out]; rfl
    have hvl : VL = [] := HVN.out rfl
    subst hve hvl
    simp only [List.length_nil]
    go_wp2_with fail
    refine (refuse_bad 16 (by decide) _).mono ?_
    rintro e w5 ⟨rfl, rfl⟩
    go_wp2_with fail
    exact ⟨rfl, X4, rfl⟩
  | some y =>
    have hve : VE = 0 := by rw [HVE.out]; rfl
    have hvl : VL = [y] := HVO.out y rfl
    subst hve hvl
    obtain ⟨b', off', c', hv, g0, g1, g2, g3, g4, g5⟩ := val_get R5.out (i := 0) (x := y) rfl
    simp only [List.length_cons, List.length_nil, Nat.zero_add, Value.slice.injEq, true_and, Nat.zero_mul, Nat.add_zero] at hv g0 g1 g2 g3 g4 g5
    obtain ⟨rfl, rfl⟩ := hv
    obtain ⟨gk, gn, gs, ga, gb, gc⟩ := y
    simp only at g0 g1 g2 g3 g4 g5
    have z4 : ∀ j, y1.cell? ⟨w.heap.size + 1, j, none⟩ = (#[.int .i64 0, .int .i64 0, .string ⟨#[]⟩, .int .i64 0, .int .i64 0, .int .i64 0] : Array Value)[j]? := B14.cell
    have h4 := fun j => B14.frozen j
    simp only [List.length_cons, List.length_nil, Nat.zero_add]
    go_wp2_with fail
    change bodyPost Try.prog Try.f66 _ Exit.ret _ (put y1 (w.heap.size + 1) 0 [.int .i64 gk, .int .i64 gn, .string gs, .int .i64 ga, .int .i64 gb, .int .i64 gc])
    have Q4 := (put_all (vs := [.int .i64 gk, .int .i64 gn, .string gs, .int .i64 ga, .int .i64 gb, .int .i64 gc]) B14 rfl).cell
    have XX := put_ext (a := w) (Nat.le_succ _) [.int .i64 gk, .int .i64 gn, .string gs, .int .i64 ga, .int .i64 gb, .int .i64 gc] 0 y1 X4
    generalize put y1 (w.heap.size + 1) 0 [.int .i64 gk, .int .i64 gn, .string gs, .int .i64 ga, .int .i64 gb, .int .i64 gc] = W9 at *
    exact bodyPost_ret (v := .agg #[.int .i64 gk, .int .i64 gn, .string gs, .int .i64 ga, .int .i64 gb, .int .i64 gc]) (by simp [results, Try.results66, go_sem, Q4]) rfl ⟨XX, rfl⟩
end Go.Proofs.Ytjaofbfppnmdjaa

namespace Go.Proofs.Ytjaofbfppnmdjaa
open Go.RowKit

/-- The kinds of the seven fields. -/
def kindH (k : Nat) : Int := ([2, 2, 5, 2, 2, 1, 2] : List Int).getD k 0
/-- The value of field k. -/
noncomputable def rdH (l : List (NodeOf (Nd 5))) (k : Nat) : Option Val := (l[k]?).bind fun x => readV (tagV (bareV (kindH k))) x.2.1
/-- The nodes of the values. -/
def lastK (l : List (NodeOf (Nd 5))) : List (NodeOf (Nd 4)) := ((l[7]?).map fun x => (x.2.2 : List (NodeOf (Nd 4)))).getD []
/-- Bytes are those of a message. -/
structure DecOk (bs : List Int) (m : Msg) : Prop where
  top : ∃ (dd : List Int) (kids : List (NodeOf (Nd 5))), decTop 7 bs = ([((97, dd, kids) : NodeOf (Nd 6))], 0) ∧ ordOk kids ∧ (∀ k : Nat, k < 7 → rdH kids k = (headM m)[k]?) ∧ valsE (lastK kids) = 0 ∧ valsOf (lastK kids) = m.vals
  chk : chkM m = 0
theorem rdH_kids (m : Msg) (h : chkM m = 0) (hn : numOk m) (k : Nat) (hk : k < 7) : rdH (kidsK 4 m) k = (headM m)[k]? := by
  obtain ⟨_, hst, _, _⟩ := chkM_zero m h
  have hv := vErr_zero _ (vErr_head m hst)
  unfold numOk at hn
  have key : ∀ (v : Val), (headM m)[k]? = some v → tagV (bareV (kindH k)) = tagV v → inN v → rdH (kidsK 4 m) k = (headM m)[k]? := fun v h1 h2 h3 => by
    unfold rdH
    rw [kidsK_head 4 m k hk v h1, h1]
    show readV (tagV (bareV (kindH k))) (datV v) = some v
    rw [h2]
    exact readV_back v (hv v (List.mem_of_getElem? h1)) h3
  obtain rfl | rfl | rfl | rfl | rfl | rfl | rfl : k = 0 ∨ k = 1 ∨ k = 2 ∨ k = 3 ∨ k = 4 ∨ k = 5 ∨ k = 6 := by omega
  · exact key _ rfl rfl (by unfold inN; simp only; omega)
  · exact key _ rfl rfl (by unfold inN; simp only; omega)
  · exact key _ rfl rfl (by unfold inN; simp only; omega)
  · exact key _ rfl rfl (by unfold inN; simp only; omega)
  · exact key _ rfl rfl (by unfold inN; simp only; omega)
  · exact key _ rfl rfl (by unfold inN tru; cases m.test <;> simp)
  · exact key _ rfl rfl (by unfold inN; simp only; omega)
theorem kids_ord (m : Msg) : ordOk (kidsK 4 m) := by
  refine ⟨kidsK_len 4 m, ?_, fun k hk => ?_⟩
  · unfold tagAt; rw [kidsK_last]; rfl
  · obtain ⟨v, hv⟩ : ∃ v, (headM m)[k]? = some v := ⟨_, List.getElem?_eq_getElem (show k < (headM m).length from hk)⟩
    unfold tagAt; rw [kidsK_head 4 m k hk v hv]; rfl
theorem lastK_kids (m : Msg) : lastK (kidsK 4 m) = m.vals.map (nodeV 4) := by
  unfold lastK
  rw [kidsK_last]
  rfl
/-- What was encoded decodes to itself. -/
theorem DecOk.back {m : Msg} (h : encME m = 0) (hn : ∀ x ∈ m.vals, inN x) : DecOk (encMB m) m := by
  have hc := encME_chk m h
  obtain ⟨h1, _, _, h4⟩ := chkM_zero m hc
  have hv := vals_back 4 m.vals h4 hn
  exact ⟨⟨[], kidsK 4 m, msg_dec m hc h, kids_ord m, rdH_kids m hc h1, by rw [lastK_kids]; exact hv.1, by rw [lastK_kids]; exact hv.2⟩, hc⟩
/-- What decodes was encoded so. -/
theorem DecOk.canon {bs : List Int} {m : Msg} (hb : Byt bs) (h : DecOk bs m) : encME m = 0 ∧ encMB m = bs := by
  obtain ⟨⟨dd, kids, ht, ho, hh, he, hv⟩, hc⟩ := h
  have h0 : (decTop 7 bs).2 = 0 := by rw [ht]
  have hcan := canonical 7 bs (by omega) hb h0
  have hbyt := byt_decTop 7 bs hb
  rw [ht] at hcan hbyt
  obtain ⟨hchk, _, _, _⟩ := encErr_zero hcan.1
  have hbk : ∀ x : NodeOf (Nd 5), x ∈ kids → Byt x.2.1 ∧ bytN 5 x.2.2 := (hbyt ((97, dd, kids) : NodeOf (Nd 6)) (List.mem_singleton.2 rfl)).2
  have e1 : errS (chkN 6) 0 ((97, dd, kids) : NodeOf (Nd 6)) = 0 := fstErr_zero (errS (chkN 6) 0) [((97, dd, kids) : NodeOf (Nd 6))] hchk _ (List.mem_singleton.2 rfl)
  obtain ⟨_, _, hn1, _, hck⟩ := errS_zero e1
  have hdd : dd = [] := hn1 (show nestB 97 = true by decide +kernel)
  have e2 : ∀ x : NodeOf (Nd 5), x ∈ kids → errS (chkN 5) 1 x = 0 := fun x hx => fstErr_zero (errS (chkN 5) 1) kids hck x hx
  have hk : kids = kidsK 4 m := by
    apply list_eq_of kids (kidsK 4 m) (by rw [ho.1, kidsK_len])
    intro i x y hx hy
    have hil := get_lt hx
    rw [ho.1] at hil
    obtain ⟨_, _, hx1, hx2, _⟩ := errS_zero (e2 x (List.mem_of_getElem? hx))
    rcases Nat.lt_or_ge i 7 with hi | hi
    · have ht := ho.2.2 i hi
      unfold tagAt at ht
      rw [hx] at ht
      simp only [Option.map_some, Option.some.injEq] at ht
      obtain ⟨v, hvv⟩ : ∃ v, (headM m)[i]? = some v := ⟨_, List.getElem?_eq_getElem (show i < (headM m).length from hi)⟩
      have hr := hh i hi
      unfold rdH at hr
      rw [hx, hvv] at hr
      have hr' : readV (tagV (bareV (kindH i))) x.2.1 = some v := hr
      obtain ⟨_, _, hd, _⟩ := readV_canon _ _ (hbk x (List.mem_of_getElem? hx)).1 v hr'
      rw [kidsK_head 4 m i hi v hvv] at hy
      injection hy with hy
      have hnn : nestB x.1 = false := by
        rw [ht]
        exact (tag_head ⟨i, hi⟩).2
      rw [← hy, hd, ← ht]
      have hkz := hx2 hnn
      obtain ⟨x1, x2, x3⟩ := x
      simp only at hkz ⊢
      rw [hkz]
    · obtain rfl : i = 7 := by omega
      have ht := ho.2.1
      unfold tagAt at ht
      rw [hx] at ht
      simp only [Option.map_some, Option.some.injEq] at ht
      rw [kidsK_last] at hy
      injection hy with hy
      have hdz := hx1 (by rw [ht]; decide +kernel)
      have hlk : lastK kids = x.2.2 := by
        unfold lastK
        rw [hx]
        rfl
      have hvc := vals_canon 4 (lastK kids) (fun z hz => ((hbk x (List.mem_of_getElem? hx)).2 z (by rw [hlk] at hz; exact hz)).1) he
      have h3 : m.vals.map (nodeV 4) = x.2.2 := by rw [← hv, hvc.2.1, hlk]
      rw [← hy]
      obtain ⟨x1, x2, x3⟩ := x
      simp only at ht hdz h3 ⊢
      rw [ht, hdz, ← h3]
      rfl
  subst hdd
  rw [hk] at hcan
  have o := out_node m 4
  have hce : encErr 7 [nodeK 4 m] = 0 := hcan.1
  have hco : encOut 7 [nodeK 4 m] = bs := hcan.2
  unfold encME encMB
  rw [if_pos hc, if_pos hc]
  exact ⟨o.2.symm.trans hce, o.1.symm.trans hco⟩
/-- A value of a kind is made of its own parts. -/
theorem form_two {v : Val} (h : chk v = 0) (hk : v.kind = 2) : v = ⟨2, v.n, noStr, 0, 0, 0⟩ := by
  have := back_of h
  unfold backV at this
  rw [if_pos (.inr hk), hk] at this
  exact this.symm
theorem form_five {v : Val} (h : chk v = 0) (hk : v.kind = 5) : v = ⟨5, 0, noStr, v.sec, v.frac, v.qual⟩ := by
  have := back_of h
  unfold backV at this
  rw [if_neg (by omega), if_neg (by omega), hk] at this
  exact this.symm
theorem form_one {v : Val} (h : chk v = 0) (hk : v.kind = 1) : v = tru (v.n == 1) := by
  have h1 := back_of h
  unfold backV at h1
  rw [if_pos (.inl hk), hk] at h1
  have h2 : v.n = 0 ∨ v.n = 1 := by
    unfold chk at h
    rw [if_pos hk] at h
    split at h
    · split at h
      · rename_i h3; exact h3
      · omega
    · omega
  rw [← h1]
  unfold tru
  rcases h2 with h2 | h2 <;> rw [h2] <;> rfl
end Go.Proofs.Ytjaofbfppnmdjaa

namespace Go.Proofs.Ytjaofbfppnmdjaa
open Go.RowKit

/-- The message of seven values and the values behind them. -/
def mkM (vv : Nat → Val) (l : List Val) : Msg := ⟨(vv 0).n, (vv 1).n, (vv 2).sec, (vv 2).frac, (vv 2).qual, (vv 3).n, (vv 4).n, (vv 5).n == 1, (vv 6).n, l⟩
theorem msg_same {m m' : Msg} (h : ∀ k : Nat, k < 7 → (headM m)[k]? = (headM m')[k]?) (hv : m.vals = m'.vals) : m = m' := by
  have h0 := h 0 (by omega)
  have h1 := h 1 (by omega)
  have h2 := h 2 (by omega)
  have h3 := h 3 (by omega)
  have h4 := h 4 (by omega)
  have h5 := h 5 (by omega)
  have h6 := h 6 (by omega)
  obtain ⟨a1, a2, a3, a4, a5, a6, a7, a8, a9, la⟩ := m
  obtain ⟨b1, b2, b3, b4, b5, b6, b7, b8, b9, lb⟩ := m'
  simp only [headM, List.getElem?_cons_zero, List.getElem?_cons_succ, Option.some.injEq, Val.mk.injEq, true_and, and_true] at h0 h1 h2 h3 h4 h6
  simp only [headM, List.getElem?_cons_zero, List.getElem?_cons_succ, Option.some.injEq, tru, Val.mk.injEq, true_and, and_true] at h5
  simp only at hv
  obtain ⟨h2a, h2b, h2c⟩ := h2
  subst h0 h1 h2a h2b h2c h3 h4 h6 hv
  have : a8 = b8 := by cases a8 <;> cases b8 <;> simp_all
  rw [this]
theorem kids_byt {bs : List Int} (hb : Byt bs) {dd : List Int} {kids : List (NodeOf (Nd 5))} (ht : decTop 7 bs = ([((97, dd, kids) : NodeOf (Nd 6))], 0)) : ∀ x : NodeOf (Nd 5), x ∈ kids → Byt x.2.1 := by
  have hbyt := byt_decTop 7 bs hb
  rw [ht] at hbyt
  have h2 : bytN 6 kids := (hbyt ((97, dd, kids) : NodeOf (Nd 6)) (List.mem_singleton.2 rfl)).2
  exact fun x hx => (h2 x hx).1
theorem rdH_of {bs : List Int} (hb : Byt bs) {dd : List Int} {kids : List (NodeOf (Nd 5))} (ht : decTop 7 bs = ([((97, dd, kids) : NodeOf (Nd 6))], 0)) {k : Nat} (hk : k < 7) {v : Val} (h : rdH kids k = some v) : chk v = 0 ∧ v.kind = kindH k := by
  unfold rdH at h
  cases hx : kids[k]? with
  | none => rw [hx] at h; cases h
  | some x =>
    rw [hx] at h
    have h' : readV (tagV (bareV (kindH k))) x.2.1 = some v := h
    obtain ⟨c1, _, _, _, _, c6⟩ := readV_canon _ _ (kids_byt hb ht x (List.mem_of_getElem? hx)) v h'
    refine ⟨c1, ?_⟩
    rw [c6]
    obtain rfl | rfl | rfl | rfl | rfl | rfl | rfl : k = 0 ∨ k = 1 ∨ k = 2 ∨ k = 3 ∨ k = 4 ∨ k = 5 ∨ k = 6 := by omega
    all_goals rfl
theorem head_mk {bs : List Int} (hb : Byt bs) {dd : List Int} {kids : List (NodeOf (Nd 5))} (ht : decTop 7 bs = ([((97, dd, kids) : NodeOf (Nd 6))], 0)) {vv : Nat → Val} (h : ∀ j : Nat, j < 7 → rdH kids j = some (vv j)) (l : List Val) : ∀ k : Nat, k < 7 → rdH kids k = (headM (mkM vv l))[k]? := by
  intro k hk
  obtain ⟨c1, c2⟩ := rdH_of hb ht hk (h k hk)
  rw [h k hk]
  obtain rfl | rfl | rfl | rfl | rfl | rfl | rfl : k = 0 ∨ k = 1 ∨ k = 2 ∨ k = 3 ∨ k = 4 ∨ k = 5 ∨ k = 6 := by omega
  · exact congrArg some (form_two c1 c2)
  · exact congrArg some (form_two c1 c2)
  · exact congrArg some (form_five c1 c2)
  · exact congrArg some (form_two c1 c2)
  · exact congrArg some (form_two c1 c2)
  · exact congrArg some (form_one c1 c2)
  · exact congrArg some (form_two c1 c2)
theorem DecOk.only {bs : List Int} (hb : Byt bs) {dd : List Int} {kids : List (NodeOf (Nd 5))} (ht : decTop 7 bs = ([((97, dd, kids) : NodeOf (Nd 6))], 0)) {vv : Nat → Val} (h : ∀ j : Nat, j < 7 → rdH kids j = some (vv j)) {m : Msg} (hm : DecOk bs m) : valsE (lastK kids) = 0 ∧ m = mkM vv (valsV (lastK kids)) := by
  obtain ⟨⟨dd', kids', ht', _, hh, he, hv⟩, _⟩ := hm
  rw [ht] at ht'
  injection ht' with ht' _
  injection ht' with ht' _
  injection ht' with _ ht'
  injection ht' with _ ht'
  subst ht'
  refine ⟨he, msg_same (fun k hk => ?_) ?_⟩
  · rw [← hh k hk]
    exact head_mk hb ht h _ k hk
  · show m.vals = valsV (lastK kids)
    unfold valsV
    rw [if_pos he, hv]
theorem DecOk.mk' {bs : List Int} (hb : Byt bs) {dd : List Int} {kids : List (NodeOf (Nd 5))} (ht : decTop 7 bs = ([((97, dd, kids) : NodeOf (Nd 6))], 0)) (ho : ordOk kids) {vv : Nat → Val} (h : ∀ j : Nat, j < 7 → rdH kids j = some (vv j)) (he : valsE (lastK kids) = 0) (hc : chkM (mkM vv (valsV (lastK kids))) = 0) : DecOk bs (mkM vv (valsV (lastK kids))) := by
  refine ⟨⟨dd, kids, ht, ho, head_mk hb ht h _, he, ?_⟩, hc⟩
  show valsOf (lastK kids) = valsV (lastK kids)
  unfold valsV
  rw [if_pos he]
theorem lastK_len {bs : List Int} {dd : List Int} {kids : List (NodeOf (Nd 5))} (ht : decTop 7 bs = ([((97, dd, kids) : NodeOf (Nd 6))], 0)) : (lastK kids).length ≤ 1500 := by
  have h1 := decTop_cnt 7 bs
  rw [ht] at h1
  have h2 : cntN 7 [((97, dd, kids) : NodeOf (Nd 6))] = 1 + (dd.length + cntN 6 kids) := by
    show cntS (cntN 6) [((97, dd, kids) : NodeOf (Nd 6))] = _
    simp [cntS]
  have h3 : cntN 6 kids ≤ 1500 := by
    have h4 : cntN 7 [((97, dd, kids) : NodeOf (Nd 6))] ≤ 1500 := h1
    omega
  unfold lastK
  cases hx : kids[7]? with
  | none => exact Nat.zero_le _
  | some x =>
    have h5 := sum_mem_le (fun x : NodeOf (Nd 5) => x.2.1.length + cntN 5 x.2.2) kids x (List.mem_of_getElem? hx)
    have h6 : (kids.map (fun x : NodeOf (Nd 5) => x.2.1.length + cntN 5 x.2.2)).sum ≤ cntN 6 kids := Nat.le_add_left _ _
    have h7 : (x.2.2 : List (NodeOf (Nd 4))).length ≤ cntN 5 x.2.2 := Nat.le_add_right _ _
    have h8 : cntN 5 x.2.2 ≤ x.2.1.length + cntN 5 x.2.2 := Nat.le_add_left _ _
    exact Nat.le_trans h7 (Nat.le_trans h8 (Nat.le_trans h5 (Nat.le_trans h6 h3)))
end Go.Proofs.Ytjaofbfppnmdjaa

namespace Go.Proofs.Ytjaofbfppnmdjaa
open Go.RowKit
attribute [local go_sem ↓] Go.wp_at_zero Go.wp_at_succ

/-- It returns a message or an error. -/
def RetDM (w : World) (bs : List Int) (e : Ending) (w' : World) : Prop :=
  ∃ (x : Msg) (u : Value) (er : Int), e = .returned (.tuple #[msgA x u, .int .i64 er]) ∧ Ext w w' ∧ RF Any 6 valE w' u x.vals ∧ (er = 0 → DecOk bs x) ∧ ∀ m, DecOk bs m → er = 0 ∧ x = m

theorem settle_rec (v : Value) : settle (.panicking [{ v := v, recovered := true }]) = .returning := rfl
set_option maxRecDepth 100000 in
/-- Decoding that ends by a refusal. -/
theorem dec_door {w W : World} {bs : List Int} {T : Array Value} {er x : Int} {cm : Array Value} (h2 : T[2]? = some (.pointer (some ⟨w.heap.size, 0, none⟩))) (h3 : T[3]? = some (.pointer (some ⟨w.heap.size + 1, 0, none⟩)))
    (B1 : Bk W w.heap.size 71 cm) (hs : cm.size = 10) (B2 : Bk W (w.heap.size + 1) 26 #[.int .i64 x]) (hX : Ext w W) (he : er ≠ 0) (hno : ∀ m, ¬ DecOk bs m) :
    bodyPostD Try.prog Try.f45 (RetDM w bs) (Exit.panic [refusal er]) { tmps := T, defers := [{ target := .fn (.func 63) #[.pointer (some ⟨w.heap.size, 0, none⟩), .pointer (some ⟨w.heap.size + 1, 0, none⟩)], args := #[] }] } W := by
  refine leaves_cons (f := 63) (args := #[.pointer (some ⟨w.heap.size, 0, none⟩), .pointer (some ⟨w.heap.size + 1, 0, none⟩)]) (by simp) (by simp [go_sem]) ?_
  refine (dec1_panic w.heap.size er x [] cm W B1 hs B2).mono ?_
  rintro e u' w2 ⟨rfl, rfl, C1, C2, CX⟩
  show Leaves Try.prog Try.f45 T (RetDM w bs) [] .returning w2
  refine ⟨.tuple #[.agg #[.int .i64 0, .int .i64 0, .int .i64 0, .int .i64 0, .int .i64 0, .int .i64 0, .int .i64 0, .bool false, .int .i64 0, .slice none 0 0], .int .i64 er], ?_, ⟨⟨0, 0, 0, 0, 0, 0, 0, false, 0, []⟩, .slice none 0 0, er, rfl, CX w (Nat.le_refl _) hX, RF.nil _ _ _ _, fun h => absurd h he, fun m hm => absurd hm (hno m)⟩⟩
  have c1 := C1.cell
  have c2 := C2.cell
  simp [results, Try.results45, go_sem, h2, h3, c1, c2]
/-- Decoding that ends well. -/
theorem dec_door_ok {w W : World} {bs : List Int} {T : Array Value} {z1 z2 z3 z4 z5 z6 z7 : Int} {z8 : Bool} {z9 : Int} {u : Value} {VL : List Val} (h2 : T[2]? = some (.pointer (some ⟨w.heap.size, 0, none⟩))) (h3 : T[3]? = some (.pointer (some ⟨w.heap.size + 1, 0, none⟩)))
    (B1 : Bk W w.heap.size 71 #[.int .i64 z1, .int .i64 z2, .int .i64 z3, .int .i64 z4, .int .i64 z5, .int .i64 z6, .int .i64 z7, .bool z8, .int .i64 z9, u]) (B2 : Bk W (w.heap.size + 1) 26 #[.int .i64 0]) (hX : Ext w W) (hR : RF Any 6 valE W u VL)
    (hok : DecOk bs ⟨z1, z2, z3, z4, z5, z6, z7, z8, z9, VL⟩) (huq : ∀ m, DecOk bs m → m = ⟨z1, z2, z3, z4, z5, z6, z7, z8, z9, VL⟩) :
    bodyPostD Try.prog Try.f45 (RetDM w bs) Exit.ret { tmps := T, defers := [{ target := .fn (.func 63) #[.pointer (some ⟨w.heap.size, 0, none⟩), .pointer (some ⟨w.heap.size + 1, 0, none⟩)], args := #[] }] } W := by
  refine leaves_cons (f := 63) (args := #[.pointer (some ⟨w.heap.size, 0, none⟩), .pointer (some ⟨w.heap.size + 1, 0, none⟩)]) (by simp) (by simp [go_sem]) ?_
  refine (dec1_idle _ _ W).mono ?_
  rintro e u' w2 ⟨rfl, rfl, rfl⟩
  show Leaves Try.prog Try.f45 T (RetDM w bs) [] .returning w2
  refine ⟨.tuple #[.agg #[.int .i64 z1, .int .i64 z2, .int .i64 z3, .int .i64 z4, .int .i64 z5, .int .i64 z6, .int .i64 z7, .bool z8, .int .i64 z9, u], .int .i64 0], ?_, ⟨⟨z1, z2, z3, z4, z5, z6, z7, z8, z9, VL⟩, u, 0, rfl, hX, hR, fun _ => hok, fun m hm => ⟨rfl, (huq m hm).symm⟩⟩⟩
  have c1 := B1.cell
  have c2 := B2.cell
  simp [results, Try.results45, go_sem, h2, h3, c1, c2]
theorem Agree.setNew {V : Nat → Prop} {a w : World} (h : Agree V a w) {p : Addr} (hp : a.heap.size ≤ p.block) (u : Value) : Agree V a (w.setCell p u) :=
  ⟨by simpa [World.setCell] using h.size, fun k hk hv => (Below.heap_setCell _ _ _ _ (fun e => by omega)).trans (h.block k hk hv)⟩
theorem Agree.putNew {V : Nat → Prop} {a : World} {B : Nat} (hB : a.heap.size ≤ B) : ∀ (vs : List Value) (j : Nat) (w : World), Agree V a w → Agree V a (put w B j vs)
  | [], _, _, h => h
  | v :: vs, j, w, h => by rw [put]; exact Agree.putNew hB vs (j + 1) _ (h.setNew (p := ⟨B, j, none⟩) hB v)
theorem put_cells (cs VS : List Value) (q : Nat) (hq : q + VS.length ≤ cs.length) : (∀ p, p < VS.length → (cs.take q ++ VS ++ cs.drop (q + VS.length)).toArray[q + p]? = VS[p]?) ∧ (∀ i, i < q → (cs.take q ++ VS ++ cs.drop (q + VS.length)).toArray[i]? = cs[i]?) ∧ (cs.take q ++ VS ++ cs.drop (q + VS.length)).toArray.size = cs.length := by
  have hl : (cs.take q).length = q := by rw [List.length_take]; omega
  refine ⟨fun p hp => ?_, fun i hi => ?_, ?_⟩
  · rw [List.getElem?_toArray, List.append_assoc, List.getElem?_append_right (by omega), hl, show q + p - q = p by omega, List.getElem?_append_left hp]
  · rw [List.getElem?_toArray, List.append_assoc, List.getElem?_append_left (by omega), List.getElem?_take, if_pos hi]
  · simp
    omega
theorem put_six {w : World} {B : Nat} {t : TypeId} {cs : Array Value} (x : Val) (q : Nat) (hq : q + 6 ≤ cs.size) (h : Bk w B t cs) : ∃ cs2 : Array Value, Bk (put w B q (valE x)) B t cs2 ∧ cs2.size = cs.size ∧ (∀ p u, (valE x)[p]? = some u → cs2[q + p]? = some u) ∧ ∀ i, i < q → cs2[i]? = cs[i]? := by
  have hlen : q + (valE x).length ≤ cs.toList.length := by rw [Array.length_toList]; exact hq
  obtain ⟨c1, c2, c3⟩ := put_cells cs.toList (valE x) q hlen
  refine ⟨_, put_at (valE x) cs.toList q w (by simpa using h) hlen, by rw [c3, Array.length_toList], fun p u hu => ?_, fun i hi => ?_⟩
  · rw [c1 p (get_lt hu)]
    exact hu
  · rw [c2 i hi, Array.getElem?_toList]
theorem leaves_congr {P : Program} {fn : Func} {T T' : Array Value} {R : Ending → World → Prop} (h : results fn T = results fn T') : ∀ (ds : List Deferred) (u : FrameMode) (w : World), Leaves P fn T R ds u w = Leaves P fn T' R ds u w
  | [], .returning, w => by simp only [Leaves, h]
  | [], .panicking _, w => rfl
  | [], .run, w => rfl
  | d :: ds, u, w => by
    simp only [Leaves, leaves_congr h ds]
theorem dec_results (T : Array Value) (d : Nat) (v : Value) (h2 : d ≠ 2) (h3 : d ≠ 3) : results Try.f45 (T.setIfInBounds d v) = results Try.f45 T := by
  have e2 : (T.setIfInBounds d v)[2]? = T[2]? := Array.getElem?_setIfInBounds_ne h2
  have e3 : (T.setIfInBounds d v)[3]? = T[3]? := Array.getElem?_setIfInBounds_ne h3
  simp [results, Try.results45, e2, e3]
theorem dec_hangs {R : Ending → World → Prop} (d : Nat) (h2 : d ≠ 2) (h3 : d ≠ 3) (v : Value) (c : List PanicEntry) (a : Act) (w : World) (h : bodyPostD Try.prog Try.f45 R (.panic c) (a.put (some d) v) w) : bodyPostD Try.prog Try.f45 R (.panic c) a w := by
  have e := leaves_congr (P := Try.prog) (R := R) (dec_results a.tmps d v h2 h3) a.defers (.panicking c) w
  exact Eq.mp e h
theorem kindH_in (k : Nat) (hk : k < 7) : kindH k = 1 ∨ kindH k = 2 ∨ kindH k = 5 := by
  obtain rfl | rfl | rfl | rfl | rfl | rfl | rfl : k = 0 ∨ k = 1 ∨ k = 2 ∨ k = 3 ∨ k = 4 ∨ k = 5 ∨ k = 6 := by omega
  all_goals decide
def zeroH : Val := ⟨0, 0, noStr, 0, 0, 0⟩
theorem wp_alloc_gen {P : Program} {c : Code} {Q : Exit → Act → World → Prop} {a : Act} {w : World} {cs : Array Value} {t : TypeId} (n : Nat) (hn : cs.size = n) (h : ∀ w4 cs', Bk w4 w.heap.size t cs' → cs'.size = n → Ext w w4 → c.wp P Q a w4) : c.wp P Q a (w.alloc (.cells cs t)) := h _ cs (Bk.new w cs t _ rfl) hn ((Ext.refl w).alloc _)
open Classical in
set_option maxRecDepth 100000 in
set_option maxHeartbeats 16000000 in
theorem decMP_any (bs : List Int) (v : Value) (w : World) (h : RB Any w v bs) : Calls Try.prog 45 #[v] w (RetDM w bs) := by
  have hmf : ∀ (fn : Fn) (first cap : Array Value) (w : World), (Instr.makeFunc fn first cap).run Try.prog w = .ok (.func fn first cap) w := fun _ _ _ _ => rfl
  have HD := Lib.hid (fun w1 (he : Ext w w1) => decodeP_any 7 bs v w1 (by omega) (h.ext he))
  have HBY := Lib.hid h.byt
  obtain ⟨a, c, rfl, _, _⟩ := h.form
  by_cases h0 : (decTop 7 bs).2 = 0
  · have hdt : decTop 7 bs = ((decTop 7 bs).1, 0) := by rw [← h0]
    generalize hL : ((decTop 7 bs).1 : List (Nd 7)) = l at *
    have HDT := Lib.hid hdt
    rw [hdt] at HD
    have HRO := Lib.hid (fun w1 => refuse_ok w1)
    have HR15 := Lib.hid (fun w1 => refuse_bad 15 (by decide) w1)
    generalize bs.length = n at *
    clear h h0 hL hdt
    have HDQ : Hid (∀ W, Ext w W → Calls Try.prog 44 #[.slice a n c] W fun e w' => ∃ a2 c2, e = .returned (.tuple #[.slice a2 l.length c2, .int .i64 0]) ∧ Ext W w' ∧ (nodesRk (RkN 6)).rk (Old W) w' (.slice a2 l.length c2) l) := fun W hW =>
      (HD.out W hW).mono fun e w' ⟨a2, c2, he, hx, hr⟩ => ⟨a2, c2, he, hx, hr (Old W) (fun k hk => hk)⟩
    clear HD
    obtain ⟨ln, hln⟩ : ∃ ln, l.length = ln := ⟨_, rfl⟩
    have HLN := Lib.hid hln
    rw [hln] at HDQ
    clear hln
    go_enter_defers Try.func45, Try.ntmps45
    go_upto_region 1 with fail
    have B1 := (Bk.new w #[.int .i64 0, .int .i64 0, .int .i64 0, .int .i64 0, .int .i64 0, .int .i64 0, .int .i64 0, .bool false, .int .i64 0, .slice none 0 0] 71 w.heap.size rfl).alloc (.cells #[.int .i64 0] 26)
    have B2 := Bk.new (w.alloc (.cells #[.int .i64 0, .int .i64 0, .int .i64 0, .int .i64 0, .int .i64 0, .int .i64 0, .int .i64 0, .bool false, .int .i64 0, .slice none 0 0] 71)) #[.int .i64 0] 26 (w.heap.size + 1) (by simp)
    have X0 : Ext w ((w.alloc (.cells #[.int .i64 0, .int .i64 0, .int .i64 0, .int .i64 0, .int .i64 0, .int .i64 0, .int .i64 0, .bool false, .int .i64 0, .slice none 0 0] 71)).alloc (.cells #[.int .i64 0] 26)) := ((Ext.refl w).alloc _).alloc _
    generalize (w.alloc (.cells #[.int .i64 0, .int .i64 0, .int .i64 0, .int .i64 0, .int .i64 0, .int .i64 0, .int .i64 0, .bool false, .int .i64 0, .slice none 0 0] 71)).alloc (.cells #[.int .i64 0] 26) = W at *
    go_wp2_with fail
    refine (HDQ.out W X0).mono ?_
    rintro e w2 ⟨a2, c2, rfl, x2, r2⟩
    have C1 := B1.ext x2
    have C2 := B2.ext x2
    have X2 := X0.trans x2
    have q2 : ∀ j, w2.cell? ⟨w.heap.size + 1, j, none⟩ = (#[.int .i64 0] : Array Value)[j]? := C2.cell
    have f2 := fun j => C2.frozen j
    have HO1 : Hid (Old W w.heap.size) := B1.lt
    have HO2 : Hid (Old W (w.heap.size + 1)) := B2.lt
    have HR2 := Lib.hid r2
    clear B1 B2 X0 x2 r2 HDQ
    go_upto_region 3 with fail
    have D1 := C1.setOther (B' := w.heap.size + 1) (by omega) 0 (.int .i64 0)
    have D2 : Bk (w2.setCell ⟨w.heap.size + 1, 0, none⟩ (.int .i64 0)) (w.heap.size + 1) 26 #[.int .i64 0] := C2.setCell 0 _
    have X3 : Ext w (w2.setCell ⟨w.heap.size + 1, 0, none⟩ (.int .i64 0)) := X2.setCell (Nat.le_succ _) _
    have A3 : Agree (Old W) w2 (w2.setCell ⟨w.heap.size + 1, 0, none⟩ (.int .i64 0)) := agree_setCell (p := ⟨w.heap.size + 1, 0, none⟩) HO2.out _
    generalize w2.setCell ⟨w.heap.size + 1, 0, none⟩ (.int .i64 0) = w3 at *
    have q3 : ∀ j, w3.cell? ⟨w.heap.size + 1, j, none⟩ = (#[.int .i64 0] : Array Value)[j]? := D2.cell
    clear q2 f2 C1 C2 X2
    go_wp2_with fail
    refine (HRO.out w3).mono ?_
    rintro e w4 ⟨rfl, rfl⟩
    by_cases h1 : ln = 1
    · subst h1
      obtain ⟨x, hx⟩ : ∃ x, l = [x] := by
        match l, HLN.out with
        | [x], _ => exact ⟨x, rfl⟩
      subst hx
      obtain ⟨t, dd, kids0⟩ := x
      obtain ⟨kids, hkids⟩ : ∃ k : List (NodeOf (Nd 5)), k = kids0 := ⟨kids0, rfl⟩
      subst hkids
      have HR3 := Lib.hid ((nodesRk (RkN 6)).agree HR2.out A3)
      obtain ⟨b, off, cc, da, dc, ka, kc, hv, _, _, g0, _, g2, _, hk⟩ := node_at HR3.out (i := 0) Nat.one_pos
      have hk' : (nodesRk (RkN 5)).rk (Old W) w3 (.slice ka (kids : List (NodeOf (Nd 5))).length kc) kids := hk
      have g0' : w3.cell? ⟨b, off + 0 * 3, none⟩ = some (.int .i64 t) := g0
      have g2' : w3.cell? ⟨b, off + 0 * 3 + 2, none⟩ = some (.slice ka (kids : List (NodeOf (Nd 5))).length kc) := g2
      simp only [Nat.zero_mul, Nat.add_zero] at g0' g2'
      have hv' : Value.slice a2 1 c2 = .slice (some ⟨b, off, none⟩) 1 cc := hv
      simp only [Value.slice.injEq, true_and] at hv'
      obtain ⟨rfl, rfl⟩ := hv'
      clear g0 g2 hk HR3 HR2 hv
      by_cases ht : t = 97
      · subst ht
        have HORD := Lib.hid (ordered_any (RkN 5) kids _ w3 hk')
        by_cases ho : ordOk (kids : List (NodeOf (Nd 5)))
        · rw [decide_eq_true ho] at HORD
          have h8 : (kids : List (NodeOf (Nd 5))).length = 8 := ho.1
          rw [h8] at HORD g2' hk'
          have HK3 := Lib.hid hk'
          clear hk'
          go_wp2_with fail
          refine HORD.out.mono ?_
          rintro e w5 ⟨rfl, rfl⟩
          go_upto_region 8 with fail
          refine wp_alloc_gen 42 rfl ?_
          intro w4 Z7 LB hz7 hx4
          have D1' := D1.ext hx4
          have D2' := D2.ext hx4
          have X4 := X3.trans hx4
          have A4 := hx4.agree (Old W)
          have HL4 : Hid (w.heap.size + 1 < w3.heap.size) := D2.lt
          clear D1 D2 A3 hx4 X3 g0' g2' q3
          have HHD : Hid (∀ w1, Calls Try.prog 58 #[.agg #[.int .i64 0, .int .i64 0, .int .i64 0, .int .i64 0, .int .i64 0, .int .i64 0, .int .i64 0, .bool false, .int .i64 0, .slice none 0 0]] w1 (RetV w1 (headM ⟨0, 0, 0, 0, 0, 0, 0, false, 0, []⟩))) := fun w1 => header_any ⟨0, 0, 0, 0, 0, 0, 0, false, 0, []⟩ (.slice none 0 0) w1
          have HKH : Hid (∀ (k : Nat) x, (headM ⟨0, 0, 0, 0, 0, 0, 0, false, 0, []⟩)[k]? = some x → x.kind = kindH k) := fun k x hx => by
            have hk := get_lt hx
            have hk7 : k < 7 := hk
            obtain rfl | rfl | rfl | rfl | rfl | rfl | rfl : k = 0 ∨ k = 1 ∨ k = 2 ∨ k = 3 ∨ k = 4 ∨ k = 5 ∨ k = 6 := by omega
            all_goals
              injection hx with hx
              rw [← hx]
              rfl
          have HL7 : Hid ((headM ⟨0, 0, 0, 0, 0, 0, 0, false, 0, []⟩).length = 7) := rfl
          generalize headM ⟨0, 0, 0, 0, 0, 0, 0, false, 0, []⟩ = HM at *
          go_wp2_with fail
          refine (HHD.out w4).mono ?_
          rintro e w5 ⟨a7, c7, he, x5, r5⟩
          rw [HL7.out] at he r5
          subst he
          have HR5 := Lib.hid (r5.weak (V' := fun k => k = w3.heap.size) (by omega) (fun g _ hg => by subst hg; exact LB.lt))
          have LB5 := LB.ext x5
          have D15 := Lib.hid (D1'.ext x5)
          have D25 := Lib.hid (D2'.ext x5)
          have X5 := X4.trans x5
          have A5 := A4.trans (x5.agree (Old W))
          clear r5 LB D1' D2' X4 A4 x5 HHD
          generalize hLN : w3.heap.size = L at *
          have HLN3 := Lib.hid hLN
          clear hLN
          go_wp2_with fail
          go_loopw [44] (fun i wr => ∃ (k : Nat) (cs : Array Value) (vv : Nat → Val), k ≤ 7 ∧ i = .int .i64 k ∧ Bk wr L 115 cs ∧ cs.size = 42 ∧ (∀ j : Nat, j < k → rdH kids j = some (vv j) ∧ ∀ p u, (valE (vv j))[p]? = some u → cs[j * 6 + p]? = some u) ∧ Agree (fun k => k = L) w5 wr ∧ Agree (Old W) w3 wr ∧ Ext w wr) (fun i _ => 7 - (intOf i).toNat)
          case atStart => exact ⟨0, Z7, fun _ => zeroH, by omega, rfl, LB5, hz7, fun j h => by omega, Agree.refl _ _, A5, X5⟩
          case round =>
            obtain ⟨k, cs, vv, hk, rfl, hlb, hcs, hall, hah, han, hx⟩ := hrel
            have HALL := Lib.hid hall
            have HAH := Lib.hid hah
            have HAN := Lib.hid han
            have HX := Lib.hid hx
            have HLB := Lib.hid hlb
            have HCS := Lib.hid hcs
            have DR1 := Lib.hid (D15.out.agree hah (by have := HL4.out; omega))
            have DR2 := Lib.hid (D25.out.agree hah (by have := HL4.out; omega))
            by_cases hlt : k < 7
            · have hki : (k : Int) < 7 := by omega
              have hki8 : (k : Int) < 8 := by omega
              have hki0 : (0 : Int) ≤ k := by omega
              obtain ⟨xv, hxv⟩ : ∃ x, HM[k]? = some x := ⟨_, List.getElem?_eq_getElem (by rw [HL7.out]; exact hlt)⟩
              obtain ⟨bh, oh, ch, hv, p0, p1, p2, p3, p4, p5⟩ := val_get (HR5.out.agree hah) hxv
              rw [HL7.out] at hv
              simp only [Value.slice.injEq] at hv
              obtain ⟨rfl, -, rfl⟩ := hv
              have hkk := HKH.out k xv hxv
              obtain ⟨xn, hxn⟩ : ∃ x, (kids : List (NodeOf (Nd 5)))[k]? = some x := ⟨_, List.getElem?_eq_getElem (by rw [h8]; omega)⟩
              obtain ⟨bn, on, cn, da, dc, ka2, kc2, hv2, _, _, n0, n1, n2, hdn, _⟩ := node_at ((nodesRk (RkN 5)).agree HK3.out han) (i := k) (by rw [h8]; omega)
              obtain ⟨bn3, on3, cn3, da3, dc3, ka3, kc3, hv3, _, _, m0, _, _, _, _⟩ := node_at HK3.out (i := k) (by rw [h8]; omega)
              have hbn3 := World.block_lt_of_cell? _ _ m0
              rw [h8, hv2] at hv3
              rw [h8] at hv3
              simp only [Value.slice.injEq, Option.some.injEq, Addr.mk.injEq, and_true, true_and] at hv3
              have hbL : bn < L := by rw [← HLN3.out, hv3.1.1]; exact hbn3
              have hLr : L < wr.heap.size := hlb.lt
              clear m0 hv3 hbn3
              obtain ⟨hkl, hxe⟩ := List.getElem?_eq_some_iff.1 hxn
              rw [hxe] at n0 n1 n2 hdn
              rw [h8] at hv2
              simp only [Value.slice.injEq] at hv2
              obtain ⟨rfl, -, rfl⟩ := hv2
              have hrd : rdH kids k = readV (tagV (bareV (kindH k))) xn.2.1 := by unfold rdH; rw [hxn]; rfl
              have HFD := Lib.hid (fun w1 (he : Ext wr w1) => field_any (kindH k) (kindH_in k hlt) xn.1 xn.2.1 (.slice da xn.2.1.length dc) (.slice ka2 xn.2.2.length kc2) w1 (hdn.ext he))
              rw [← hrd] at HFD
              obtain ⟨t, D, ks⟩ := xn
              simp only at *
              generalize D.length = dl at *
              generalize ks.length = kl at *
              obtain ⟨pk, pn, ps, pa, pb, pc⟩ := xv
              simp only at hkk
              subst hkk
              simp only at *
              generalize kindH k = pk at *
              have e0 : ∀ j, j < 6 → ∃ u, cs[k * 6 + j]? = some u := fun j hj => ⟨_, Array.getElem?_eq_getElem (show k * 6 + j < cs.size by omega)⟩
              obtain ⟨u0, eu0⟩ := e0 0 (by omega)
              obtain ⟨u1, eu1⟩ := e0 1 (by omega)
              obtain ⟨u2, eu2⟩ := e0 2 (by omega)
              obtain ⟨u3, eu3⟩ := e0 3 (by omega)
              obtain ⟨u4, eu4⟩ := e0 4 (by omega)
              obtain ⟨u5, eu5⟩ := e0 5 (by omega)
              have HU := Lib.hid (And.intro eu0 (And.intro eu1 (And.intro eu2 (And.intro eu3 (And.intro eu4 eu5)))))
              clear hall hlb hcs hxv hxn hxe hkl hrd hdn e0 eu0 eu1 eu2 eu3 eu4 eu5
              go_upto_region 11 with fail
              have PB := Bk.new wr #[.int .i64 pk, .int .i64 pn, .string ps, .int .i64 pa, .int .i64 pb, .int .i64 pc] 43 wr.heap.size rfl
              have hw6 : Ext wr (wr.alloc (.cells #[.int .i64 pk, .int .i64 pn, .string ps, .int .i64 pa, .int .i64 pb, .int .i64 pc] 43)) := (Ext.refl wr).alloc _
              generalize wr.alloc (.cells #[.int .i64 pk, .int .i64 pn, .string ps, .int .i64 pa, .int .i64 pb, .int .i64 pc] 43) = w6 at *
              have HSB : Hid (∀ w', Ext w6 w' → w'.cell? ⟨wr.heap.size, 0, none⟩ = some (.int .i64 pk) ∧ w'.cell? ⟨bn, on + k * 3, none⟩ = some (.int .i64 t) ∧ w'.cell? ⟨bn, on + k * 3 + 1, none⟩ = some (.slice da dl dc) ∧ w'.cell? ⟨bn, on + k * 3 + 2, none⟩ = some (.slice ka2 kl kc2)) := fun w' he => ⟨(PB.ext he).cell 0, he.cell (hw6.cell n0), he.cell (hw6.cell n1), he.cell (hw6.cell n2)⟩
              have HF6 := Lib.hid (HFD.out w6.drew hw6.drew)
              cases hrv : rdH kids k with
              | none =>
                rw [hrv] at HF6
                have HNO : Hid (∀ m, ¬ DecOk bs m) := fun m hm => by
                  obtain ⟨dd', kids', ht, _, hh, _⟩ := hm.top
                  rw [HDT.out] at ht
                  injection ht with ht _
                  injection ht with ht _
                  injection ht with _ ht
                  injection ht with _ ht
                  subst ht
                  have := hh k hlt
                  rw [hrv] at this
                  have hl : k < (headM m).length := hlt
                  rw [List.getElem?_eq_getElem hl] at this
                  cases this
                have HF7 : Hid (Calls Try.prog 66 #[.agg #[.int .i64 t, .slice da dl dc, .slice ka2 kl kc2], .int .i64 pk] w6.drew fun e w' => e = .panicked [refusal 16] ∧ Ext w6.drew w') := Lib.hid (HF6.out.mono fun e w' h => ⟨h.2, h.1⟩)
                clear hrv HF6 HFD n0 n1 n2 p0 p1 p2 p3 p4 p5 PB
                refine wp_region_held (S := (fun w' => w'.cell? ⟨wr.heap.size, 0, none⟩ = some (.int .i64 pk) ∧ w'.cell? ⟨bn, on + k * 3, none⟩ = some (.int .i64 t) ∧ w'.cell? ⟨bn, on + k * 3 + 1, none⟩ = some (.slice da dl dc) ∧ w'.cell? ⟨bn, on + k * 3 + 2, none⟩ = some (.slice ka2 kl kc2))) (by kernel_rfl) ?_
                have hS0 := HSB.out _ (Ext.refl w6).drew
                refine wpAnyH_take (i := 0) (v := .int .i64 k) rfl (by kernel_rfl) (by kernel_rfl) (by kernel_rfl) (fun c a w h => dec_hangs 49 (by decide) (by decide) _ c a w h) (Or.inl ⟨by rfl, fun w hSw => ?_⟩) hS0 ?_
                · (try dsimp only at hSw); go_split_ands; go_simp
                simp only [Act.put, List.setIfInBounds_toArray]
                refine wpAnyH_take (i := 1) (v := .slice (some ⟨bn, on, none⟩) 8 kc) rfl (by kernel_rfl) (by kernel_rfl) (by kernel_rfl) (fun c a w h => dec_hangs 50 (by decide) (by decide) _ c a w h) (Or.inl ⟨by rfl, fun w hSw => ?_⟩) hS0 ?_
                · (try dsimp only at hSw); go_split_ands; go_simp
                simp only [Act.put]
                refine wpAnyH_take (i := 2) (v := .int .i64 k) rfl (by kernel_rfl) (by kernel_rfl) (by kernel_rfl) (fun c a w h => dec_hangs 51 (by decide) (by decide) _ c a w h) (Or.inl ⟨by rfl, fun w hSw => ?_⟩) hS0 ?_
                · (try dsimp only at hSw); go_split_ands; go_simp
                simp only [Act.put]
                refine wpAnyH_take (i := 3) (v := .pointer (some ⟨bn, on + k * 3, none⟩)) rfl (by kernel_rfl) (by kernel_rfl) (by kernel_rfl) (fun c a w h => dec_hangs 52 (by decide) (by decide) _ c a w h) (Or.inl ⟨by rfl, fun w hSw => ?_⟩) hS0 ?_
                · (try dsimp only at hSw); go_split_ands; go_simp
                simp only [Act.put]
                refine wpAnyH_take (i := 4) (v := .agg #[.int .i64 t, .slice da dl dc, .slice ka2 kl kc2]) rfl (by kernel_rfl) (by kernel_rfl) (by kernel_rfl) (fun c a w h => dec_hangs 53 (by decide) (by decide) _ c a w h) (Or.inl ⟨by rfl, fun w hSw => ?_⟩) hS0 ?_
                · (try dsimp only at hSw); go_split_ands; go_simp
                simp only [Act.put]
                refine wpAnyH_take (i := 5) (v := .pointer (some ⟨wr.heap.size, 0, none⟩)) rfl (by kernel_rfl) (by kernel_rfl) (by kernel_rfl) (fun c a w h => dec_hangs 54 (by decide) (by decide) _ c a w h) (Or.inl ⟨by rfl, fun w hSw => ?_⟩) hS0 ?_
                · (try dsimp only at hSw); go_split_ands; go_simp
                simp only [Act.put]
                refine wpAnyH_take (i := 6) (v := .int .i64 pk) rfl (by kernel_rfl) (by kernel_rfl) (by kernel_rfl) (fun c a w h => dec_hangs 55 (by decide) (by decide) _ c a w h) (Or.inl ⟨by rfl, fun w hSw => ?_⟩) hS0 ?_
                · (try dsimp only at hSw); go_split_ands; go_simp
                simp only [Act.put]
                refine wpAnyH_ready (rs := [7]) (by kernel_rfl) (by simp) ?_
                refine AllReadyH.cons rfl (fun K hK => ?_) AllReadyH.nil
                go_simp
                refine HF7.out.mono ?_
                rintro e y1 ⟨rfl, t1⟩
                have G1 : Ext w6 y1 := (Ext.refl w6).drew.trans t1
                exact dec_door rfl rfl (DR1.out.ext (hw6.trans G1)) rfl (DR2.out.ext (hw6.trans G1)) ((HX.out.trans hw6).trans G1) (by decide) HNO.out
              | some y =>
                rw [hrv] at HF6
                have HRV := Lib.hid hrv
                obtain ⟨vk, vn, vs, va, vb, vc⟩ := y
                have HF7 : Hid (Calls Try.prog 66 #[.agg #[.int .i64 t, .slice da dl dc, .slice ka2 kl kc2], .int .i64 pk] w6.drew fun e w' => e = .returned (.agg #[.int .i64 vk, .int .i64 vn, .string vs, .int .i64 va, .int .i64 vb, .int .i64 vc]) ∧ Ext w6.drew w') := Lib.hid (HF6.out.mono fun e w' h => ⟨h.2, h.1⟩)
                have HLW := Lib.hid (fun w' (he : Ext wr w') => HLB.out.ext he)
                clear hrv HF6 HFD n0 n1 n2 p0 p1 p2 p3 p4 p5 PB
                go_region_held3 (fun w' => w'.cell? ⟨wr.heap.size, 0, none⟩ = some (.int .i64 pk) ∧ w'.cell? ⟨bn, on + k * 3, none⟩ = some (.int .i64 t) ∧ w'.cell? ⟨bn, on + k * 3 + 1, none⟩ = some (.slice da dl dc) ∧ w'.cell? ⟨bn, on + k * 3 + 2, none⟩ = some (.slice ka2 kl kc2))
                  (first | (exact HSB.out _ (by first | (with_reducible exact Ext.refl w6) | (with_reducible exact (Ext.refl w6).drew) | (with_reducible exact G1))) | (exact ⟨by (repeat rw [World.cell?_setCell_other _ _ _ _ (by intro h; injection h; omega)]); exact (HSB.out _ G1).1, by (repeat rw [World.cell?_setCell_other _ _ _ _ (by intro h; injection h; omega)]); exact (HSB.out _ G1).2.1, by (repeat rw [World.cell?_setCell_other _ _ _ _ (by intro h; injection h; omega)]); exact (HSB.out _ G1).2.2.1, by (repeat rw [World.cell?_setCell_other _ _ _ _ (by intro h; injection h; omega)]); exact (HSB.out _ G1).2.2.2⟩) | fail)
                  (first
                    | (go_at_call 66; (with_reducible refine HF7.out.mono ?_); rintro e y1 ⟨rfl, t1⟩; have G1 : Ext w6 y1 := (Ext.refl w6).drew.trans t1; have LY := HLW.out _ (hw6.trans G1); have l0 : y1.cell? ⟨L, k * 6, none⟩ = some u0 := (LY.cell (k * 6)).trans HU.out.1; have l1 : y1.cell? ⟨L, k * 6 + 1, none⟩ = some u1 := (LY.cell _).trans HU.out.2.1; have l2 : y1.cell? ⟨L, k * 6 + 2, none⟩ = some u2 := (LY.cell _).trans HU.out.2.2.1; have l3 : y1.cell? ⟨L, k * 6 + 3, none⟩ = some u3 := (LY.cell _).trans HU.out.2.2.2.1; have l4 : y1.cell? ⟨L, k * 6 + 4, none⟩ = some u4 := (LY.cell _).trans HU.out.2.2.2.2.1; have l5 : y1.cell? ⟨L, k * 6 + 5, none⟩ = some u5 := (LY.cell _).trans HU.out.2.2.2.2.2; have lf := fun j => LY.frozen j; clear t1)
                    | fail)
                change Exit.inBlock 1 _ Exit.normal _ (put y1 L (k * 6) (valE ⟨vk, vn, vs, va, vb, vc⟩))
                obtain ⟨cs2, LP, hc2, hp1, hp2⟩ := put_six ⟨vk, vn, vs, va, vb, vc⟩ (k * 6) (by rw [HCS.out]; omega) LY
                have hwL : w.heap.size ≤ L := by have := HL4.out; omega
                have XP := put_ext hwL (valE ⟨vk, vn, vs, va, vb, vc⟩) (k * 6) y1 ((HX.out.trans hw6).trans G1)
                have AHP : Agree (fun k => k = L) w5 (put y1 L (k * 6) (valE ⟨vk, vn, vs, va, vb, vc⟩)) := (HAH.out.trans ((hw6.trans G1).agree _)).trans (agree_put (V := fun k => k = L) (B := L) rfl _ _ _)
                have ANP : Agree (Old W) w3 (put y1 L (k * 6) (valE ⟨vk, vn, vs, va, vb, vc⟩)) := Agree.putNew (Nat.le_of_eq HLN3.out) _ _ _ (HAN.out.trans ((hw6.trans G1).agree _))
                have HPC : Hid (∀ (j : Nat), j < k + 1 → rdH kids j = some (if j = k then ⟨vk, vn, vs, va, vb, vc⟩ else vv j) ∧ ∀ p u, (valE (if j = k then ⟨vk, vn, vs, va, vb, vc⟩ else vv j))[p]? = some u → cs2[j * 6 + p]? = some u) := fun j hj => by
                  by_cases hjk : j = k
                  · subst hjk
                    rw [if_pos rfl]
                    exact ⟨HRV.out, hp1⟩
                  · rw [if_neg hjk]
                    obtain ⟨h1, h2⟩ := HALL.out j (by omega)
                    refine ⟨h1, fun p u hu => ?_⟩
                    have hp6 : p < 6 := get_lt hu
                    rw [hp2 (j * 6 + p) (by omega)]
                    exact h2 p u hu
                have HP3 : Hid (cs2.size = 42) := hc2.trans HCS.out
                generalize put y1 L (k * 6) (valE ⟨vk, vn, vs, va, vb, vc⟩) = w9 at *
                clear hp1 hp2 hc2 l0 l1 l2 l3 l4 l5 lf LY
                go_wp2_with fail
                go_roundw
                case rel => exact ⟨k + 1, cs2, fun j => if j = k then ⟨vk, vn, vs, va, vb, vc⟩ else vv j, by omega, by go_num, LP, HP3.out, HPC.out, AHP, ANP, XP⟩
                case measure => simp [intOf]; omega
            · have hki : ¬ (k : Int) < 7 := by omega
              obtain rfl : k = 7 := by omega
              obtain ⟨bn, on, cn, da, dc, ka2, kc2, hv2, _, _, _, _, n2, _, hlk⟩ := node_at ((nodesRk (RkN 5)).agree HK3.out han) (i := 7) (by rw [h8]; omega)
              rw [h8] at hv2
              simp only [Value.slice.injEq] at hv2
              obtain ⟨rfl, -, rfl⟩ := hv2
              have hLK : lastK kids = (kids[7]'(by rw [h8]; omega)).2.2 := by unfold lastK; rw [List.getElem?_eq_getElem (by rw [h8]; omega)]; rfl
              have n2' : wr.cell? ⟨bn, on + 7 * 3 + 2, none⟩ = some (.slice ka2 (lastK kids).length kc2) := by rw [hLK]; exact n2
              have hlk' : (nodesRk (RkN 4)).rk (Old W) wr (.slice ka2 (lastK kids).length kc2) (lastK kids) := by rw [hLK]; exact hlk
              have HVP := Lib.hid (valuesP_any (RkN 4) (lastK kids) _ wr hlk' (Nat.le_trans (lastK_len HDT.out) (by omega)))
              have HON := Lib.hid (fun m (hm : DecOk bs m) => DecOk.only HBY.out HDT.out (fun j hj => (HALL.out j hj).1) hm)
              have HMK := Lib.hid (fun he hc => DecOk.mk' HBY.out HDT.out ho (fun j hj => (HALL.out j hj).1) he hc)
              have HCL : Hid (∀ (j p : Nat) u, j < 7 → (valE (vv j))[p]? = some u → cs[j * 6 + p]? = some u) := fun j p u hj hu => (HALL.out j hj).2 p u hu
              generalize valsV (lastK kids) = VL at *
              generalize valsE (lastK kids) = VE at *
              generalize (lastK kids).length = lk at *
              simp only [Nat.reduceMul, Nat.add_assoc, Nat.reduceAdd] at n2'
              clear hall hah han hx hlb hcs hLK n2 hlk hlk' HAH HAN HK3
              go_wp2_with fail
              refine HVP.out.mono ?_
              rintro e w6 ⟨a6, c6, rfl, x6, r6⟩
              have HR6 := Lib.hid (r6 (fun k => k = w.heap.size ∨ k = w.heap.size + 1) (by rintro _ (rfl | rfl); exact DR1.out.lt; exact DR2.out.lt))
              have E1 := DR1.out.ext x6
              have E2 := DR2.out.ext x6
              have EL := HLB.out.ext x6
              have X6 := HX.out.trans x6
              have q6 : ∀ j, w6.cell? ⟨w.heap.size + 1, j, none⟩ = (#[.int .i64 0] : Array Value)[j]? := E2.cell
              have f6 := fun j => E2.frozen j
              have hL4 := HL4.out
              clear r6 x6 n2'
              generalize hvl : VL.length = vl at *
              go_upto_region 14 with fail
              have F1 := E1.setOther (B' := w.heap.size + 1) (by omega) 0 (.int .i64 VE)
              have F2 : Bk (w6.setCell ⟨w.heap.size + 1, 0, none⟩ (.int .i64 VE)) (w.heap.size + 1) 26 #[.int .i64 VE] := E2.setCell 0 _
              have FL := EL.setOther (B' := w.heap.size + 1) (by omega) 0 (.int .i64 VE)
              have X7 : Ext w (w6.setCell ⟨w.heap.size + 1, 0, none⟩ (.int .i64 VE)) := X6.setCell (Nat.le_succ _) _
              have HB7 : Hid (Agree (fun k => k = w.heap.size ∨ k = w.heap.size + 1) w6 (w6.setCell ⟨w.heap.size + 1, 0, none⟩ (.int .i64 VE))) := agree_setCell (p := ⟨w.heap.size + 1, 0, none⟩) (.inr rfl) _
              generalize w6.setCell ⟨w.heap.size + 1, 0, none⟩ (.int .i64 VE) = w7 at *
              have q7 : ∀ j, w7.cell? ⟨w.heap.size + 1, j, none⟩ = (#[.int .i64 VE] : Array Value)[j]? := F2.cell
              clear q6 f6 E1 E2 EL X6
              by_cases hve : VE = 0
              · subst hve
                have l1 : w7.cell? ⟨L, 1, none⟩ = some (.int .i64 (vv 0).n) := (FL.cell 1).trans (HCL.out 0 1 _ (by omega) rfl)
                have l7 : w7.cell? ⟨L, 7, none⟩ = some (.int .i64 (vv 1).n) := (FL.cell 7).trans (HCL.out 1 1 _ (by omega) rfl)
                have l15 : w7.cell? ⟨L, 15, none⟩ = some (.int .i64 (vv 2).sec) := (FL.cell 15).trans (HCL.out 2 3 _ (by omega) rfl)
                have l16 : w7.cell? ⟨L, 16, none⟩ = some (.int .i64 (vv 2).frac) := (FL.cell 16).trans (HCL.out 2 4 _ (by omega) rfl)
                have l17 : w7.cell? ⟨L, 17, none⟩ = some (.int .i64 (vv 2).qual) := (FL.cell 17).trans (HCL.out 2 5 _ (by omega) rfl)
                have l19 : w7.cell? ⟨L, 19, none⟩ = some (.int .i64 (vv 3).n) := (FL.cell 19).trans (HCL.out 3 1 _ (by omega) rfl)
                have l25 : w7.cell? ⟨L, 25, none⟩ = some (.int .i64 (vv 4).n) := (FL.cell 25).trans (HCL.out 4 1 _ (by omega) rfl)
                have l31 : w7.cell? ⟨L, 31, none⟩ = some (.int .i64 (vv 5).n) := (FL.cell 31).trans (HCL.out 5 1 _ (by omega) rfl)
                have l37 : w7.cell? ⟨L, 37, none⟩ = some (.int .i64 (vv 6).n) := (FL.cell 37).trans (HCL.out 6 1 _ (by omega) rfl)
                have hmk : mkM vv VL = ⟨(vv 0).n, (vv 1).n, (vv 2).sec, (vv 2).frac, (vv 2).qual, (vv 3).n, (vv 4).n, (vv 5).n == 1, (vv 6).n, VL⟩ := rfl
                have HMM := Lib.hid hmk
                clear hmk HCL HLB FL
                generalize (vv 0).n = z1 at *
                generalize (vv 1).n = z2 at *
                generalize (vv 2).sec = z3 at *
                generalize (vv 2).frac = z4 at *
                generalize (vv 2).qual = z5 at *
                generalize (vv 3).n = z6 at *
                generalize (vv 4).n = z7 at *
                generalize (vv 5).n = zb at *
                generalize (vv 6).n = z9 at *
                generalize mkM vv VL = MM at *
                obtain ⟨z8, hz8⟩ : ∃ z8, (zb == 1) = z8 := ⟨_, rfl⟩
                rw [hz8] at HMM
                have q8 : ∀ j, w7.cell? ⟨w.heap.size, j, none⟩ = (#[.int .i64 0, .int .i64 0, .int .i64 0, .int .i64 0, .int .i64 0, .int .i64 0, .int .i64 0, .bool false, .int .i64 0, .slice none 0 0] : Array Value)[j]? := F1.cell
                have f8 := fun j => F1.frozen j
                go_wp2_with fail
                refine (HRO.out w7).mono ?_
                rintro e w8 ⟨rfl, rfl⟩
                go_upto_region 16 with fail
                change Code.wp _ _ _ _ (put w7 w.heap.size 0 [.int .i64 z1, .int .i64 z2, .int .i64 z3, .int .i64 z4, .int .i64 z5, .int .i64 z6, .int .i64 z7, .bool z8, .int .i64 z9, .slice a6 vl c6])
                have HCM : Hid (∀ w1 u, RF Any 6 valE w1 u VL → Calls Try.prog 40 #[.agg #[.int .i64 z1, .int .i64 z2, .int .i64 z3, .int .i64 z4, .int .i64 z5, .int .i64 z6, .int .i64 z7, .bool z8, .int .i64 z9, u]] w1 fun e w' => e = .returned (.int .i64 (chkM MM)) ∧ Ext w1 w') := fun w1 u hu => by
                  rw [HMM.out]
                  exact checkM_any ⟨z1, z2, z3, z4, z5, z6, z7, z8, z9, VL⟩ u w1 hu
                have K1 := put_all (vs := [.int .i64 z1, .int .i64 z2, .int .i64 z3, .int .i64 z4, .int .i64 z5, .int .i64 z6, .int .i64 z7, .bool z8, .int .i64 z9, .slice a6 vl c6]) F1 rfl
                have K2 := put_other (B := w.heap.size + 1) (B' := w.heap.size) (by omega) [.int .i64 z1, .int .i64 z2, .int .i64 z3, .int .i64 z4, .int .i64 z5, .int .i64 z6, .int .i64 z7, .bool z8, .int .i64 z9, .slice a6 vl c6] 0 w7 F2
                have X8 := put_ext (a := w) (Nat.le_refl _) [.int .i64 z1, .int .i64 z2, .int .i64 z3, .int .i64 z4, .int .i64 z5, .int .i64 z6, .int .i64 z7, .bool z8, .int .i64 z9, .slice a6 vl c6] 0 w7 X7
                have HR8 := Lib.hid ((HR6.out.agree HB7.out).agree (agree_put (V := (fun k => k = w.heap.size ∨ k = w.heap.size + 1)) (B := w.heap.size) (.inl rfl) [.int .i64 z1, .int .i64 z2, .int .i64 z3, .int .i64 z4, .int .i64 z5, .int .i64 z6, .int .i64 z7, .bool z8, .int .i64 z9, .slice a6 vl c6] 0 w7))
                generalize put w7 w.heap.size 0 [.int .i64 z1, .int .i64 z2, .int .i64 z3, .int .i64 z4, .int .i64 z5, .int .i64 z6, .int .i64 z7, .bool z8, .int .i64 z9, .slice a6 vl c6] = w8 at *
                have HC8 := Lib.hid (HCM.out w8 _ (HR8.out.weak (by omega) (fun _ _ h => h.elim)))
                have q9 : ∀ j, w8.cell? ⟨w.heap.size, j, none⟩ = (#[.int .i64 z1, .int .i64 z2, .int .i64 z3, .int .i64 z4, .int .i64 z5, .int .i64 z6, .int .i64 z7, .bool z8, .int .i64 z9, .slice a6 vl c6] : Array Value)[j]? := K1.cell
                clear q7 q8 f8 F1 F2 X7 l1 l7 l15 l16 l17 l19 l25 l31 l37 HB7 HR6
                go_wp2_with fail
                refine HC8.out.mono ?_
                rintro e w10 ⟨rfl, x10⟩
                have M1 := K1.ext x10
                have M2 := K2.ext x10
                have X10 := X8.trans x10
                have HR10 := Lib.hid (HR8.out.ext x10)
                clear q9 K1 K2 X8 x10 HR8
                have hmq : ∀ m, DecOk bs m → m = MM := fun m hm => (HON.out m hm).2
                have HMQ := Lib.hid hmq
                clear hmq
                by_cases hch : chkM MM = 0
                · rw [hch]
                  have HCH := Lib.hid hch
                  have q11 : ∀ j, w10.cell? ⟨w.heap.size, j, none⟩ = (#[.int .i64 z1, .int .i64 z2, .int .i64 z3, .int .i64 z4, .int .i64 z5, .int .i64 z6, .int .i64 z7, .bool z8, .int .i64 z9, .slice a6 vl c6] : Array Value)[j]? := M1.cell
                  have q12 : ∀ j, w10.cell? ⟨w.heap.size + 1, j, none⟩ = (#[.int .i64 0] : Array Value)[j]? := M2.cell
                  have f11 := fun j => M1.frozen j
                  have f12 := fun j => M2.frozen j
                  clear hch
                  go_wp2_with fail
                  refine (HRO.out w10).mono ?_
                  rintro e w11 ⟨rfl, rfl⟩
                  go_wp2_with fail
                  change bodyPostD _ _ _ Exit.ret _ ((put w10 w.heap.size 0 [.int .i64 z1, .int .i64 z2, .int .i64 z3, .int .i64 z4, .int .i64 z5, .int .i64 z6, .int .i64 z7, .bool z8, .int .i64 z9, .slice a6 vl c6]).setCell ⟨w.heap.size + 1, 0, none⟩ (.int .i64 0))
                  have N1 := (put_all (vs := [.int .i64 z1, .int .i64 z2, .int .i64 z3, .int .i64 z4, .int .i64 z5, .int .i64 z6, .int .i64 z7, .bool z8, .int .i64 z9, .slice a6 vl c6]) M1 rfl).setOther (B' := w.heap.size + 1) (by omega) 0 (.int .i64 0)
                  have N2 : Bk ((put w10 w.heap.size 0 [.int .i64 z1, .int .i64 z2, .int .i64 z3, .int .i64 z4, .int .i64 z5, .int .i64 z6, .int .i64 z7, .bool z8, .int .i64 z9, .slice a6 vl c6]).setCell ⟨w.heap.size + 1, 0, none⟩ (.int .i64 0)) (w.heap.size + 1) 26 #[.int .i64 0] := (put_other (B := w.heap.size + 1) (B' := w.heap.size) (by omega) [.int .i64 z1, .int .i64 z2, .int .i64 z3, .int .i64 z4, .int .i64 z5, .int .i64 z6, .int .i64 z7, .bool z8, .int .i64 z9, .slice a6 vl c6] 0 w10 M2).setCell 0 _
                  have XN := (put_ext (a := w) (Nat.le_refl _) [.int .i64 z1, .int .i64 z2, .int .i64 z3, .int .i64 z4, .int .i64 z5, .int .i64 z6, .int .i64 z7, .bool z8, .int .i64 z9, .slice a6 vl c6] 0 w10 X10).setCell (p := ⟨w.heap.size + 1, 0, none⟩) (Nat.le_succ _) (.int .i64 0)
                  have HRN := (HR10.out.agree (agree_put (V := (fun k => k = w.heap.size ∨ k = w.heap.size + 1)) (B := w.heap.size) (.inl rfl) [.int .i64 z1, .int .i64 z2, .int .i64 z3, .int .i64 z4, .int .i64 z5, .int .i64 z6, .int .i64 z7, .bool z8, .int .i64 z9, .slice a6 vl c6] 0 w10)).agree (agree_setCell (V := (fun k => k = w.heap.size ∨ k = w.heap.size + 1)) (p := ⟨w.heap.size + 1, 0, none⟩) (.inr rfl) (.int .i64 0))
                  have hok := HMK.out (by trivial) HCH.out
                  have huq := HMQ.out
                  rw [HMM.out] at hok huq
                  exact dec_door_ok rfl rfl N1 N2 XN (HRN.weak (by omega) (fun _ _ h => h.elim)) hok huq
                · have HNO : Hid (∀ m, ¬ DecOk bs m) := fun m hm => hch (by rw [← HMQ.out m hm]; exact hm.chk)
                  have HRB := Lib.hid (refuse_bad (chkM MM) hch w10)
                  have HVZ := Lib.hid hch
                  go_wp2_with fail
                  refine HRB.out.mono ?_
                  rintro e w11 ⟨rfl, rfl⟩
                  go_wp2_with fail
                  exact dec_door rfl rfl M1 rfl M2 X10 HVZ.out HNO.out
              · have HNO : Hid (∀ m, ¬ DecOk bs m) := fun m hm => hve (HON.out m hm).1
                have HRB := Lib.hid (refuse_bad VE hve w7)
                have HVZ := Lib.hid hve
                go_wp2_with fail
                refine HRB.out.mono ?_
                rintro e w8 ⟨rfl, rfl⟩
                go_wp2_with fail
                exact dec_door rfl rfl F1 rfl F2 X7 HVZ.out HNO.out
        · have HNO : Hid (∀ m, ¬ DecOk bs m) := fun m hm => by
            obtain ⟨dd', kids', ht, ho', _⟩ := hm.top
            rw [HDT.out] at ht
            injection ht with ht _
            injection ht with ht _
            injection ht with _ ht
            injection ht with _ ht
            subst ht
            exact ho ho'
          rw [decide_eq_false ho] at HORD
          generalize (kids : List (NodeOf (Nd 5))).length = kn at *
          go_wp2_with fail
          refine HORD.out.mono ?_
          rintro e w5 ⟨rfl, rfl⟩
          go_wp2_with fail
          refine (HR15.out w3).mono ?_
          rintro e w6 ⟨rfl, rfl⟩
          go_wp2_with fail
          exact dec_door rfl rfl D1 rfl D2 X3 (by decide) HNO.out
      · have HNO : Hid (∀ m, ¬ DecOk bs m) := fun m hm => by
          obtain ⟨dd', kids', ht', ho', _⟩ := hm.top
          rw [HDT.out] at ht'
          injection ht' with ht' _
          injection ht' with ht' _
          injection ht' with ht' _
          exact ht ht'
        have htb : (t != 97) = true := by simpa using ht
        go_wp2_with fail
        refine (HR15.out w3).mono ?_
        rintro e w6 ⟨rfl, rfl⟩
        go_wp2_with fail
        exact dec_door rfl rfl D1 rfl D2 X3 (by decide) HNO.out
    · have HNO : Hid (∀ m, ¬ DecOk bs m) := fun m hm => by
        obtain ⟨dd', kids', ht', ho', _⟩ := hm.top
        rw [HDT.out] at ht'
        injection ht' with ht' _
        have := HLN.out
        rw [ht'] at this
        exact h1 this.symm
      have h1b : ((ln : Int) != 1) = true := by simp only [bne_iff_ne, ne_eq]; omega
      go_wp2_with fail
      refine (HR15.out w3).mono ?_
      rintro e w6 ⟨rfl, rfl⟩
      go_wp2_with fail
      exact dec_door rfl rfl D1 rfl D2 X3 (by decide) HNO.out
  · have hno : ∀ m, ¬ DecOk bs m := fun m hm => by
      obtain ⟨dd, kids, ht, _⟩ := hm.top
      rw [ht] at h0
      exact h0 rfl
    have HNO := Lib.hid hno
    have hbad := decTop_bad 7 bs h0
    generalize decTop 7 bs = z at *
    obtain ⟨l, er⟩ := z
    simp only at *
    subst hbad
    have HRF := Lib.hid (fun w1 => refuse_bad er h0 w1)
    have HER := Lib.hid h0
    generalize bs.length = n at *
    clear h hno h0
    go_enter_defers Try.func45, Try.ntmps45
    go_upto_region 1 with fail
    have B1 := (Bk.new w #[.int .i64 0, .int .i64 0, .int .i64 0, .int .i64 0, .int .i64 0, .int .i64 0, .int .i64 0, .bool false, .int .i64 0, .slice none 0 0] 71 w.heap.size rfl).alloc (.cells #[.int .i64 0] 26)
    have B2 := Bk.new (w.alloc (.cells #[.int .i64 0, .int .i64 0, .int .i64 0, .int .i64 0, .int .i64 0, .int .i64 0, .int .i64 0, .bool false, .int .i64 0, .slice none 0 0] 71)) #[.int .i64 0] 26 (w.heap.size + 1) (by simp)
    have X0 : Ext w ((w.alloc (.cells #[.int .i64 0, .int .i64 0, .int .i64 0, .int .i64 0, .int .i64 0, .int .i64 0, .int .i64 0, .bool false, .int .i64 0, .slice none 0 0] 71)).alloc (.cells #[.int .i64 0] 26)) := ((Ext.refl w).alloc _).alloc _
    generalize (w.alloc (.cells #[.int .i64 0, .int .i64 0, .int .i64 0, .int .i64 0, .int .i64 0, .int .i64 0, .int .i64 0, .bool false, .int .i64 0, .slice none 0 0] 71)).alloc (.cells #[.int .i64 0] 26) = W at *
    go_wp2_with fail
    refine (HD.out W X0).mono ?_
    rintro e w2 ⟨a2, c2, rfl, x2, r2⟩
    clear r2
    have C1 := B1.ext x2
    have C2 := B2.ext x2
    have X2 := X0.trans x2
    have q2 : ∀ j, w2.cell? ⟨w.heap.size + 1, j, none⟩ = (#[.int .i64 0] : Array Value)[j]? := C2.cell
    have f2 := fun j => C2.frozen j
    clear B1 B2 X0 x2
    go_upto_region 3 with fail
    have D1 := C1.setOther (B' := w.heap.size + 1) (by omega) 0 (.int .i64 er)
    have D2 : Bk (w2.setCell ⟨w.heap.size + 1, 0, none⟩ (.int .i64 er)) (w.heap.size + 1) 26 #[.int .i64 er] := C2.setCell 0 _
    have X3 : Ext w (w2.setCell ⟨w.heap.size + 1, 0, none⟩ (.int .i64 er)) := X2.setCell (Nat.le_succ _) _
    generalize w2.setCell ⟨w.heap.size + 1, 0, none⟩ (.int .i64 er) = w3 at *
    have q3 : ∀ j, w3.cell? ⟨w.heap.size + 1, j, none⟩ = (#[.int .i64 er] : Array Value)[j]? := D2.cell
    clear q2 f2 C1 C2 X2
    go_wp2_with fail
    refine (HRF.out w3).mono ?_
    rintro e w4 ⟨rfl, rfl⟩
    go_wp2_with fail
    exact dec_door rfl rfl D1 rfl D2 X3 HER.out HNO.out
end Go.Proofs.Ytjaofbfppnmdjaa

namespace Go.Proofs.Ytjaofbfppnmdjaa
open Go.RowKit
attribute [local go_sem ↓] Go.wp_at_zero Go.wp_at_succ

theorem large_mrt {l : List Val} (h : largeB l = false) : l.length ≤ 60 := by
  unfold largeB at h
  simp only [Bool.or_eq_false_iff, decide_eq_false_iff_not] at h
  omega
set_option maxRecDepth 100000 in
set_option maxHeartbeats 16000000 in
theorem mround_walk (m : Msg) (raw : List Int) (v r : Value) (w : World) (hv : RF Any 6 valE w v m.vals) (hr : RB Any w r raw) (hin : ∀ x ∈ m.vals, inN x) : Calls Try.prog 14 #[msgA m v, r] w fun e w' => e = .returned (.bool true) ∧ Ext w w' := by
  have HK := Lib.hid (fun w1 => known12_any w1)
  have HLG := Lib.hid (fun w1 (he : Ext w w1) => large11_any m.vals v w1 (hv.ext he))
  have HRW := Lib.hid (fun w1 (he : Ext w w1) => hr.ext he)
  have HVW := Lib.hid (fun w1 (he : Ext w w1) => hv.ext he)
  have HD1 := Lib.hid (fun w1 (he : Ext w w1) => decMP_any raw r w1 (hr.ext he))
  have HBR := Lib.hid hr.byt
  cases hlg : largeB m.vals
  · have hle := large_mrt hlg
    rw [hlg] at HLG
    have HE := Lib.hid (fun w1 (he : Ext w w1) => encMP_any m v w1 (hv.ext he))
    have HT := Lib.hid (fun w1 (he : Ext w w1) => to12_any m v w1 (hv.ext he) (by omega))
    have HS2 := Lib.hid (fun w1 u (he : Ext w w1) (h : RF Any 6 valE w1 u m.vals) => sameMP_any m m u v w1 h (hv.ext he))
    rw [show sameM m m = true by simp [sameM]] at HS2
    have HS1 := Lib.hid (fun w1 u u' (h : RF Any 6 valE w1 u m.vals) (h' : RF Any 6 valE w1 u' m.vals) => sameMR_any m m u u' w1 h h')
    rw [show sameM m m = true by simp [sameM]] at HS1
    have HTX := Lib.hid (fun w1 u (h : RF Any 6 valE w1 u m.vals) => to12_any m u w1 h (by omega))
    have HDM := Lib.hid (fun w1 u (h : RB Any w1 u (encMB m)) => decMP_any (encMB m) u w1 h)
    have HBK : Hid (encME m = 0 → DecOk (encMB m) m) := fun h => DecOk.back h hin
    have HEB : Hid (encME m ≠ 0 → encMB m = []) := fun h => encMB_bad m h
    obtain ⟨a, c, rfl, hc1, hc2⟩ := hv.form
    obtain ⟨ra, rc, rfl, _, _⟩ := hr.form
    generalize encMB m = D at *
    generalize encME m = E at *
    obtain ⟨m1, m2, m3, m4, m5, m6, m7, m8, m9, vs⟩ := m
    try simp only at *
    generalize hn : vs.length = n at *
    have HNN := Lib.hid hn
    clear hn hv hlg hle hr hin
    go_enter Try.func14, Try.ntmps14
    go_upto_region 1 with fail
    have BV := Bk.new w #[.int .i64 m1, .int .i64 m2, .int .i64 m3, .int .i64 m4, .int .i64 m5, .int .i64 m6, .int .i64 m7, .bool m8, .int .i64 m9, .slice a n c] 71 w.heap.size rfl
    have X0 : Ext w (w.alloc (.cells #[.int .i64 m1, .int .i64 m2, .int .i64 m3, .int .i64 m4, .int .i64 m5, .int .i64 m6, .int .i64 m7, .bool m8, .int .i64 m9, .slice a n c] 71)) := (Ext.refl w).alloc _
    generalize w.alloc (.cells #[.int .i64 m1, .int .i64 m2, .int .i64 m3, .int .i64 m4, .int .i64 m5, .int .i64 m6, .int .i64 m7, .bool m8, .int .i64 m9, .slice a n c] 71) = W at *
    go_wp2_with fail
    refine (HK.out _).mono ?_
    rintro e w1 ⟨rfl, x1⟩
    have X1 := X0.trans x1
    have B1 := BV.ext x1
    have q1 : ∀ j, w1.cell? ⟨w.heap.size, j, none⟩ = (#[.int .i64 m1, .int .i64 m2, .int .i64 m3, .int .i64 m4, .int .i64 m5, .int .i64 m6, .int .i64 m7, .bool m8, .int .i64 m9, .slice a n c] : Array Value)[j]? := B1.cell
    go_wp2_with fail
    refine (HLG.out _ X1).mono ?_
    rintro e w1' ⟨rfl, rfl⟩
    go_wp2_with fail
    refine (HD1.out _ X1).mono ?_
    rintro e w2 ⟨x, u, er, rfl, x2, hru, hok, _⟩
    have X2 := X1.trans x2
    have B2 := B1.ext x2
    have HOK := Lib.hid hok
    have HRU := Lib.hid hru
    clear q1 BV B1 x1 x2 X0 X1 hok hru
    obtain ⟨ua, uc, hu, _, _⟩ := HRU.out.form
    subst hu
    go_upto_if 24 with fail
    go_cut [] (fun wx => Bk wx w.heap.size 71 #[.int .i64 m1, .int .i64 m2, .int .i64 m3, .int .i64 m4, .int .i64 m5, .int .i64 m6, .int .i64 m7, .bool m8, .int .i64 m9, .slice a n c] ∧ Ext w wx)
    case first =>
      by_cases her : er = 0
      · subst her
        obtain ⟨hee, heb⟩ := DecOk.canon HBR.out (HOK.out rfl)
        have HEX := Lib.hid (fun w1 (he : Ext w2 w1) => encMP_any x (.slice ua x.vals.length uc) w1 (HRU.out.ext he))
        rw [hee, heb] at HEX
        have BX := Bk.new w2 #[.int .i64 x.pub, .int .i64 x.ttl, .int .i64 x.sec, .int .i64 x.frac, .int .i64 x.qual, .int .i64 x.state, .int .i64 x.seq, .bool x.test, .int .i64 x.rev, .slice ua x.vals.length uc] 71 w2.heap.size rfl
        have B3 := B2.alloc (.cells #[.int .i64 x.pub, .int .i64 x.ttl, .int .i64 x.sec, .int .i64 x.frac, .int .i64 x.qual, .int .i64 x.state, .int .i64 x.seq, .bool x.test, .int .i64 x.rev, .slice ua x.vals.length uc] 71)
        have X3 := X2.alloc (.cells #[.int .i64 x.pub, .int .i64 x.ttl, .int .i64 x.sec, .int .i64 x.frac, .int .i64 x.qual, .int .i64 x.state, .int .i64 x.seq, .bool x.test, .int .i64 x.rev, .slice ua x.vals.length uc] 71)
        have hx3 : Ext w2 (w2.alloc (.cells #[.int .i64 x.pub, .int .i64 x.ttl, .int .i64 x.sec, .int .i64 x.frac, .int .i64 x.qual, .int .i64 x.state, .int .i64 x.seq, .bool x.test, .int .i64 x.rev, .slice ua x.vals.length uc] 71)) := (Ext.refl w2).alloc _
        generalize w2.alloc (.cells #[.int .i64 x.pub, .int .i64 x.ttl, .int .i64 x.sec, .int .i64 x.frac, .int .i64 x.qual, .int .i64 x.state, .int .i64 x.seq, .bool x.test, .int .i64 x.rev, .slice ua x.vals.length uc] 71) = w3 at *
        generalize x.vals.length = xn at *
        have q3 : ∀ j, w3.cell? ⟨w2.heap.size, j, none⟩ = (#[.int .i64 x.pub, .int .i64 x.ttl, .int .i64 x.sec, .int .i64 x.frac, .int .i64 x.qual, .int .i64 x.state, .int .i64 x.seq, .bool x.test, .int .i64 x.rev, .slice ua xn uc] : Array Value)[j]? := BX.cell
        clear hee heb B2 X2
        obtain ⟨x1, x2, x3, x4, x5, x6, x7, x8, x9, xl⟩ := x
        simp only at *
        go_wp2_with fail
        refine (HEX.out w3 hx3).mono ?_
        rintro e w4 ⟨a4, c4, rfl, y4, r4⟩
        have R4 := Lib.hid (r4 Any (fun _ h => h.elim))
        have B4 := B3.ext y4
        have X4 := X3.trans y4
        have hcv1 := R4.out.conv (P := Try.prog) 25 9 5 Try.underlying25 Try.underlying5 Try.underlying9
        have hcv2 := (HRW.out w4 X4).conv (P := Try.prog) 25 9 5 Try.underlying25 Try.underlying5 Try.underlying9
        generalize strOfNums raw = S at *
        generalize raw.length = rn at *
        have hss : (S.toList == S.toList) = true := by simp
        have hsn : (S.toList != S.toList) = false := by simp
        clear r4 q3 y4 R4
        go_wp2_with fail
        go_meet
        exact ⟨B4, X4⟩
      · have herb : (er == 0) = false := by simpa using her
        have B3 := B2.alloc (.cells #[.int .i64 x.pub, .int .i64 x.ttl, .int .i64 x.sec, .int .i64 x.frac, .int .i64 x.qual, .int .i64 x.state, .int .i64 x.seq, .bool x.test, .int .i64 x.rev, .slice ua x.vals.length uc] 71)
        have X3 := X2.alloc (.cells #[.int .i64 x.pub, .int .i64 x.ttl, .int .i64 x.sec, .int .i64 x.frac, .int .i64 x.qual, .int .i64 x.state, .int .i64 x.seq, .bool x.test, .int .i64 x.rev, .slice ua x.vals.length uc] 71)
        go_wp2_with fail
        go_meet
        exact ⟨B3, X3⟩
    case rest =>
      obtain ⟨hB, hX⟩ := hcut
      have q5 : ∀ j, wc.cell? ⟨w.heap.size, j, none⟩ = (#[.int .i64 m1, .int .i64 m2, .int .i64 m3, .int .i64 m4, .int .i64 m5, .int .i64 m6, .int .i64 m7, .bool m8, .int .i64 m9, .slice a n c] : Array Value)[j]? := hB.cell
      go_wp2_with fail
      refine (HE.out _ hX).mono ?_
      rintro e w6 ⟨a6, c6, rfl, y6, r6⟩
      have R6 := Lib.hid (r6 Any (fun _ h => h.elim))
      have B6 := hB.ext y6
      have X6 := hX.trans y6
      clear r6 q5 hB hX y6
      by_cases hE : E = 0
      · subst hE
        have HDX := Lib.hid (HDM.out w6 _ R6.out)
        have HMO := Lib.hid (HBK.out rfl)
        generalize D.length = dn at *
        go_wp2_with fail
        refine HDX.out.mono ?_
        rintro e w7 ⟨y, u7, er7, rfl, y7, hr7, _, huq⟩
        obtain ⟨rfl, hy⟩ := huq _ HMO.out
        subst hy
        obtain ⟨ua7, uc7, hu7, _, _⟩ := hr7.form
        subst hu7
        have B7 := B6.ext y7
        have X7 := X6.trans y7
        have HR7 := Lib.hid hr7
        clear y7 B6 X6 hr7 huq
        simp only [HNN.out] at HR7 ⊢
        go_upto_region 14 with fail
        have BY := Bk.new w7 #[.int .i64 m1, .int .i64 m2, .int .i64 m3, .int .i64 m4, .int .i64 m5, .int .i64 m6, .int .i64 m7, .bool m8, .int .i64 m9, .slice ua7 n uc7] 71 w7.heap.size rfl
        have B8 := B7.alloc (.cells #[.int .i64 m1, .int .i64 m2, .int .i64 m3, .int .i64 m4, .int .i64 m5, .int .i64 m6, .int .i64 m7, .bool m8, .int .i64 m9, .slice ua7 n uc7] 71)
        have X8 := X7.alloc (.cells #[.int .i64 m1, .int .i64 m2, .int .i64 m3, .int .i64 m4, .int .i64 m5, .int .i64 m6, .int .i64 m7, .bool m8, .int .i64 m9, .slice ua7 n uc7] 71)
        have HR8 := Lib.hid (fun w' (he : Ext (w7.alloc (.cells #[.int .i64 m1, .int .i64 m2, .int .i64 m3, .int .i64 m4, .int .i64 m5, .int .i64 m6, .int .i64 m7, .bool m8, .int .i64 m9, .slice ua7 n uc7] 71)) w') => (HR7.out.ext ((Ext.refl w7).alloc _)).ext he)
        generalize w7.alloc (.cells #[.int .i64 m1, .int .i64 m2, .int .i64 m3, .int .i64 m4, .int .i64 m5, .int .i64 m6, .int .i64 m7, .bool m8, .int .i64 m9, .slice ua7 n uc7] 71) = w8 at *
        have HBC : Hid (∀ w', Ext w8 w' → (∀ j, w'.cell? ⟨w.heap.size, j, none⟩ = (#[.int .i64 m1, .int .i64 m2, .int .i64 m3, .int .i64 m4, .int .i64 m5, .int .i64 m6, .int .i64 m7, .bool m8, .int .i64 m9, .slice a n c] : Array Value)[j]?) ∧ (∀ j, w'.cell? ⟨w7.heap.size, j, none⟩ = (#[.int .i64 m1, .int .i64 m2, .int .i64 m3, .int .i64 m4, .int .i64 m5, .int .i64 m6, .int .i64 m7, .bool m8, .int .i64 m9, .slice ua7 n uc7] : Array Value)[j]?)) := fun w' he => ⟨(B8.ext he).cell, (BY.ext he).cell⟩
        clear BY B7 B8 X7
        go_region_held3 (fun w' => (∀ j, w'.cell? ⟨w.heap.size, j, none⟩ = (#[.int .i64 m1, .int .i64 m2, .int .i64 m3, .int .i64 m4, .int .i64 m5, .int .i64 m6, .int .i64 m7, .bool m8, .int .i64 m9, .slice a n c] : Array Value)[j]?) ∧ (∀ j, w'.cell? ⟨w7.heap.size, j, none⟩ = (#[.int .i64 m1, .int .i64 m2, .int .i64 m3, .int .i64 m4, .int .i64 m5, .int .i64 m6, .int .i64 m7, .bool m8, .int .i64 m9, .slice ua7 n uc7] : Array Value)[j]?))
          (first | (exact HBC.out _ (by first | (with_reducible exact (Ext.refl w8).drew) | (with_reducible exact D1) | (with_reducible exact D2) | (with_reducible exact D3) | (with_reducible exact D4))) | fail)
          (first
            | (go_at_call 39; (with_reducible refine (HTX.out _ _ (HR8.out _ (Ext.refl w8).drew)).mono ?_); rintro e y1 ⟨p1, s1, he, t1, u1⟩; have D1 : Ext w8 y1 := (Ext.refl w8).drew.trans t1; simp only [HNN.out] at he u1; subst he; have HA1 := Lib.hid (u1.weak (by omega) (V' := Any) (fun _ _ h => h.elim)); clear u1; clear t1)
            | (go_at_call 39; (with_reducible refine (HT.out _ (X8.trans D1)).mono ?_); rintro e y2 ⟨p2, s2, he, t2, u2⟩; have D2 : Ext w8 y2 := D1.trans t2; simp only [HNN.out] at he u2; subst he; have HA2 := Lib.hid (And.intro (HA1.out.ext t2) (u2.weak (by omega) (V' := Any) (fun _ _ h => h.elim))); clear u2; clear t2)
            | (go_at_call 43; (with_reducible refine (HS1.out _ _ _ HA2.out.1 HA2.out.2).mono ?_); rintro e y3 ⟨rfl, t3⟩; have D3 : Ext w8 y3 := D2.trans t3; clear t3)
            | (go_at_call 42; (with_reducible refine (HS2.out _ _ (X8.trans D3) (HR8.out _ D3)).mono ?_); rintro e y4 ⟨rfl, t4⟩; have D4 : Ext w8 y4 := D3.trans t4; clear t4)
            | fail)
        all_goals
          go_wp2_with fail
          go_ret
          exact ⟨rfl, X8.trans D4⟩
      · have heb := HEB.out hE
        subst heb
        have hEb : (E != 0) = true := by simpa using hE
        go_wp2_with fail
        go_ret
        exact ⟨rfl, X6⟩
  · rw [hlg] at HLG
    obtain ⟨a, c, rfl, hc1, hc2⟩ := hv.form
    obtain ⟨ra, rc, rfl, _, _⟩ := hr.form
    clear HD1 HRW HVW HBR hv hlg hr hin
    obtain ⟨m1, m2, m3, m4, m5, m6, m7, m8, m9, vs⟩ := m
    simp only at *
    generalize vs.length = n at *
    generalize raw.length = rn at *
    go_enter Try.func14, Try.ntmps14
    go_upto_region 1 with fail
    have BV := Bk.new w #[.int .i64 m1, .int .i64 m2, .int .i64 m3, .int .i64 m4, .int .i64 m5, .int .i64 m6, .int .i64 m7, .bool m8, .int .i64 m9, .slice a n c] 71 w.heap.size rfl
    have X0 : Ext w (w.alloc (.cells #[.int .i64 m1, .int .i64 m2, .int .i64 m3, .int .i64 m4, .int .i64 m5, .int .i64 m6, .int .i64 m7, .bool m8, .int .i64 m9, .slice a n c] 71)) := (Ext.refl w).alloc _
    generalize w.alloc (.cells #[.int .i64 m1, .int .i64 m2, .int .i64 m3, .int .i64 m4, .int .i64 m5, .int .i64 m6, .int .i64 m7, .bool m8, .int .i64 m9, .slice a n c] 71) = W at *
    go_wp2_with fail
    refine (HK.out _).mono ?_
    rintro e w1 ⟨rfl, x1⟩
    have X1 := X0.trans x1
    have q1 : ∀ j, w1.cell? ⟨w.heap.size, j, none⟩ = (#[.int .i64 m1, .int .i64 m2, .int .i64 m3, .int .i64 m4, .int .i64 m5, .int .i64 m6, .int .i64 m7, .bool m8, .int .i64 m9, .slice a n c] : Array Value)[j]? := (BV.ext x1).cell
    go_wp2_with fail
    refine (HLG.out _ X1).mono ?_
    rintro e w1' ⟨rfl, rfl⟩
    go_wp2_with fail
    go_ret
    exact ⟨rfl, X1⟩
end Go.Proofs.Ytjaofbfppnmdjaa
