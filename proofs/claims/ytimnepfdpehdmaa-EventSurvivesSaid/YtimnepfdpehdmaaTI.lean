/- Contracts of refuse, of the deferred closure, of ordered and of field: decoding of messages, layer 12. -/
import Derived.Test.YtimnepfdpehdmaaTF
import Derived.Test.YtimnepfdpehdmaaTG
import Derived.Test.YtimnepfdpehdmaaTH
import Derived.Defers
import Derived.Recover
import Derived.Laws.Pointers
namespace Go.Proofs.Ytimnepfdpehdmaa
open Go.RowKit
attribute [local go_sem ↓] Go.wp_at_zero Go.wp_at_succ

/-- The panic that ends decoding. -/
abbrev refusal (e : Int) : PanicEntry := { v := .iface 119 (.agg #[.int .i64 e]), recovered := false }
theorem refuse_ok (w : World) : Calls Try.prog 47 #[.int .i64 0] w fun e w' => e = .returned (.tuple #[]) ∧ w = w' := by
  go_enter Try.func47, Try.ntmps47
  go_wp2_with fail
  exact ⟨rfl, _, results_none rfl _ _ _, rfl, rfl⟩
theorem refuse_bad (er : Int) (he : er ≠ 0) (w : World) : Calls Try.prog 47 #[.int .i64 er] w fun e w' => e = .panicked [refusal er] ∧ w = w' := by
  have heb : (er != 0) = true := by simpa using he
  go_enter Try.func47, Try.ntmps47
  go_wp2_with fail
  exact ⟨rfl, rfl, rfl⟩
set_option maxRecDepth 100000 in
set_option maxHeartbeats 2000000 in
theorem dec1_panic (B : Nat) (er x : Int) (older : List PanicEntry) (cm : Array Value) (w : World) (h1 : Bk w B 55 cm) (hs : cm.size = 10) (h2 : Bk w (B + 1) 30 #[.int .i64 x]) :
    CallsD Try.prog 45 #[.pointer (some ⟨B, 0, none⟩), .pointer (some ⟨B + 1, 0, none⟩)] (.panicking (refusal er :: older)) w fun e u' w' =>
      e = .returned (.tuple #[]) ∧ u' = .panicking ({ refusal er with recovered := true } :: older) ∧ Bk w' B 55 #[.int .i64 0, .int .i64 0, .int .i64 0, .int .i64 0, .int .i64 0, .int .i64 0, .int .i64 0, .bool false, .int .i64 0, .slice none 0 0] ∧ Bk w' (B + 1) 30 #[.int .i64 er] ∧ (∀ a : World, a.heap.size ≤ B → Ext a w → Ext a w') := by
  have hta : ∀ (x : Value) (W : World), (Instr.typeAssert (.iface 119 x) 20 119 true).run Try.prog W = .ok (.tuple #[x, .bool true]) W := fun x W => by kernel_rfl
  refine callsD_of_wpS Try.func45 rfl fun c₀ cs hu => ?_
  apply wpS_seq
  apply wpS_region
  simp [wpOpsS, go_sem, recoverD, hu, Try.ntmps45, Exit.thenS]
  refine wpS_of_wp ?_
  have hrep : Array.replicate 12 undef = #[undef, undef, undef, undef, undef, undef, undef, undef, undef, undef, undef, undef] := rfl
  rw [hrep]
  simp only [List.append_toArray, List.cons_append, List.nil_append, List.setIfInBounds_toArray, List.set_cons_succ, List.set_cons_zero]
  clear hrep
  go_upto_region 7 with fail
  have C1 := Bk.new w #[.int .i64 er] 119 w.heap.size rfl
  have B1 := h1.alloc (.cells #[.int .i64 er] 119)
  have B2 := h2.alloc (.cells #[.int .i64 er] 119)
  have hlt : B + 1 < w.heap.size := h2.lt
  have HX : Hid (∀ a : World, a.heap.size ≤ B → Ext a w → Ext a (w.alloc (.cells #[.int .i64 er] 119))) := fun a _ he => he.alloc _
  generalize w.alloc (.cells #[.int .i64 er] 119) = W at *
  generalize w.heap.size = R at *
  have q0 : W.cell? ⟨R, 0, none⟩ = some (.int .i64 er) := C1.cell 0
  have f1 := fun j => B1.frozen j
  have f2 := fun j => B2.frozen j
  have q1 := B1.cell
  have q2 : ∀ j, W.cell? ⟨B + 1, j, none⟩ = (#[.int .i64 x] : Array Value)[j]? := B2.cell
  have hne1 : ¬ R = B := by omega
  have hne2 : ¬ R = B + 1 := by omega
  clear h1 h2
  go_region_held3 (fun w' => w'.cell? ⟨R, 0, none⟩ = some (.int .i64 er))
    (first | (with_reducible exact q0) | (simp only [World.cell?_drew]; (repeat rw [World.cell?_setCell_other _ _ _ _ (by intro h; injection h; omega)]); exact q0) | ((repeat rw [World.cell?_setCell_other _ _ _ _ (by intro h; injection h; omega)]); exact q0) | fail)
    (fail)
  change Exit.inBlock 0 _ Exit.normal _ ((put W B 0 [.int .i64 0, .int .i64 0, .int .i64 0, .int .i64 0, .int .i64 0, .int .i64 0, .int .i64 0, .bool false, .int .i64 0, .slice none 0 0]).setCell ⟨B + 1, 0, none⟩ (.int .i64 er)).drew
  have P1 := put_all (vs := [.int .i64 0, .int .i64 0, .int .i64 0, .int .i64 0, .int .i64 0, .int .i64 0, .int .i64 0, .bool false, .int .i64 0, .slice none 0 0]) B1 (by rw [hs]; rfl)
  have P2 := put_other (B := B + 1) (B' := B) (by omega) [.int .i64 0, .int .i64 0, .int .i64 0, .int .i64 0, .int .i64 0, .int .i64 0, .int .i64 0, .bool false, .int .i64 0, .slice none 0 0] 0 W B2
  have E1 : Bk ((put W B 0 [.int .i64 0, .int .i64 0, .int .i64 0, .int .i64 0, .int .i64 0, .int .i64 0, .int .i64 0, .bool false, .int .i64 0, .slice none 0 0]).setCell ⟨B + 1, 0, none⟩ (.int .i64 er)).drew B 55 #[.int .i64 0, .int .i64 0, .int .i64 0, .int .i64 0, .int .i64 0, .int .i64 0, .int .i64 0, .bool false, .int .i64 0, .slice none 0 0] := (P1.setOther (B' := B + 1) (by omega) 0 (.int .i64 er)).drew
  have E2 : Bk ((put W B 0 [.int .i64 0, .int .i64 0, .int .i64 0, .int .i64 0, .int .i64 0, .int .i64 0, .int .i64 0, .bool false, .int .i64 0, .slice none 0 0]).setCell ⟨B + 1, 0, none⟩ (.int .i64 er)).drew (B + 1) 30 #[.int .i64 er] := (P2.setCell 0 (.int .i64 er)).drew
  have EX : ∀ a : World, a.heap.size ≤ B → Ext a w → Ext a ((put W B 0 [.int .i64 0, .int .i64 0, .int .i64 0, .int .i64 0, .int .i64 0, .int .i64 0, .int .i64 0, .bool false, .int .i64 0, .slice none 0 0]).setCell ⟨B + 1, 0, none⟩ (.int .i64 er)).drew := fun a ha he => ((put_ext ha [.int .i64 0, .int .i64 0, .int .i64 0, .int .i64 0, .int .i64 0, .int .i64 0, .int .i64 0, .bool false, .int .i64 0, .slice none 0 0] 0 W (HX.out a ha he)).setCell (Nat.le_succ_of_le ha) _).drew
  generalize ((put W B 0 [.int .i64 0, .int .i64 0, .int .i64 0, .int .i64 0, .int .i64 0, .int .i64 0, .int .i64 0, .bool false, .int .i64 0, .slice none 0 0]).setCell ⟨B + 1, 0, none⟩ (.int .i64 er)).drew = W9 at *
  try simp only [Exit.inBlock]
  exact ⟨rfl, _, rfl, _, results_none rfl _ _ _, rfl, rfl, E1, E2, EX⟩
theorem dec1_idle (p q : Value) (w : World) : CallsD Try.prog 45 #[p, q] .returning w fun e u' w' => e = .returned (.tuple #[]) ∧ u' = .returning ∧ w' = w := by
  refine callsD_of_wpS Try.func45 rfl fun c₀ cs hu => ?_
  apply wpS_seq
  apply wpS_region
  simp [wpOpsS, go_sem, recoverD, hu, Try.ntmps45, Exit.thenS]
  refine wpS_of_wp ?_
  have hrep : Array.replicate 12 undef = #[undef, undef, undef, undef, undef, undef, undef, undef, undef, undef, undef, undef] := rfl
  rw [hrep]
  simp only [List.append_toArray, List.cons_append, List.nil_append, List.setIfInBounds_toArray, List.set_cons_succ, List.set_cons_zero]
  clear hrep
  go_wp2_with fail
  try simp only [Exit.inBlock]
  exact ⟨rfl, _, by rw [← hu], _, results_none rfl _ _ _, rfl, rfl, rfl⟩
end Go.Proofs.Ytimnepfdpehdmaa

namespace Go.Proofs.Ytimnepfdpehdmaa
open Go.RowKit
attribute [local go_sem ↓] Go.wp_at_zero Go.wp_at_succ

/-- The tag of node k. -/
def tagAt {α : Type} (l : List (NodeOf α)) (k : Nat) : Option Int := (l[k]?).map fun x => x.1
/-- Do nodes bear the tags of a message's parts? -/
def ordOk {α : Type} (l : List (NodeOf α)) : Prop := l.length = 8 ∧ tagAt l 7 = some 167 ∧ ∀ k : Nat, k < 7 → tagAt l k = some (128 + (k : Int))
open Classical in
set_option maxHeartbeats 4000000 in
theorem ordered_any {α : Type} (R : Rk α) {V : Nat → Prop} (l : List (NodeOf α)) (v : Value) (w : World) (h : (nodesRk R).rk V w v l) : Calls Try.prog 48 #[v] w fun e w' => e = .returned (.bool (decide (ordOk l))) ∧ w = w' := by
  obtain ⟨a, c, rfl, hc1, hc2⟩ := (nodesRk R).form h
  have HG : Hid (∀ k, k < l.length → ∃ b off c' t, (Value.slice a l.length c) = .slice (some ⟨b, off, none⟩) l.length c' ∧ w.cell? ⟨b, off + k * 3, none⟩ = some (.int .i64 t) ∧ tagAt l k = some t) := fun k hk => by
    obtain ⟨b, off, c', da, dc, ka, kc, hv, _, _, g0, _, _, _, _⟩ := node_at h hk
    exact ⟨b, off, c', _, hv, g0, by unfold tagAt; rw [List.getElem?_eq_getElem hk]; rfl⟩
  obtain ⟨r, hr⟩ : ∃ r, decide (ordOk l) = r := ⟨_, rfl⟩
  rw [hr]
  have HR := Lib.hid hr
  have HNO : Hid (¬ ordOk l → r = false) := fun h => by rw [← hr]; exact decide_eq_false h
  have HYES : Hid (ordOk l → r = true) := fun h => by rw [← hr]; exact decide_eq_true h
  clear hr h
  by_cases h8 : l.length = 8
  · obtain ⟨b, off, c', t7, hv, g7, ht7⟩ := HG.out 7 (by omega)
    simp only [Value.slice.injEq] at hv
    obtain ⟨rfl, -, rfl⟩ := hv
    rw [h8] at HG hc1 ⊢
    have HT7 := Lib.hid ht7
    have HL8 := Lib.hid h8
    simp only [Nat.reduceMul] at g7
    clear ht7 h8
    by_cases h167 : t7 = 167
    · subst h167
      go_enter Try.func48, Try.ntmps48
      go_wp2_with fail
      go_loop [14] (fun i => ∃ k : Nat, k ≤ 7 ∧ i = .int .i64 k ∧ ∀ j : Nat, j < k → tagAt l j = some (128 + (j : Int))) (fun i => 7 - (intOf i).toNat)
      case atStart => exact ⟨0, by omega, rfl, fun j h => by omega⟩
      case round =>
        obtain ⟨k, hk, rfl, hall⟩ := hrel
        have HALL := Lib.hid hall
        clear hall
        by_cases hlt : k < 7
        · obtain ⟨b', off', c'', t, hv, g0, ht⟩ := HG.out k (by omega)
          simp only [Value.slice.injEq, Option.some.injEq, Addr.mk.injEq, and_true, true_and] at hv
          obtain ⟨⟨rfl, rfl⟩, rfl⟩ := hv
          have hki : (k : Int) < 7 := by omega
          have HTK := Lib.hid ht
          by_cases hte : t = 128 + (k : Int)
          · have hne : (t != 128 + (k : Int)) = false := by simpa using hte
            have HTE := Lib.hid hte
            clear ht hte
            go_wp2_with fail
            go_round
            case rel => exact ⟨k + 1, by omega, by go_num, fun j hj => by
              by_cases hjk : j = k
              · subst hjk; rw [HTK.out, HTE.out]
              · exact HALL.out j (by omega)⟩
            case measure => simp [intOf]; omega
          · have hne : (t != 128 + (k : Int)) = true := by simpa using hte
            have HE := Lib.hid (HNO.out (fun h => by
              have := h.2.2 k hlt
              rw [ht] at this
              injection this with this
              exact hte this))
            clear ht hte
            go_wp2_with fail
            go_ret
            exact ⟨by rw [HE.out]; rfl, rfl⟩
        · have hki : ¬ (k : Int) < 7 := by omega
          have HE := Lib.hid (HYES.out ⟨HL8.out, HT7.out, fun j hj => HALL.out j (by omega)⟩)
          go_wp2_with fail
          go_ret
          exact ⟨by rw [HE.out]; rfl, rfl⟩
    · have hne : (t7 != 167) = true := by simpa using h167
      have HE := Lib.hid (HNO.out (fun h => by
        have := h.2.1
        rw [HT7.out] at this
        injection this with this
        exact h167 this))
      clear h167
      go_enter Try.func48, Try.ntmps48
      go_wp2_with fail
      go_ret
      exact ⟨by rw [HE.out]; rfl, rfl⟩
  · have HE := Lib.hid (HNO.out (fun h => h8 h.1))
    have hne : ((l.length : Int) != 8) = true := by simp only [bne_iff_ne, ne_eq]; omega
    clear HG HNO HYES h8
    generalize l.length = n at *
    go_enter Try.func48, Try.ntmps48
    go_wp2_with fail
    go_ret
    exact ⟨by rw [HE.out]; rfl, rfl⟩
/-- A value of a kind that bears nothing. -/
def bareV (k : Int) : Val := ⟨k, 0, noStr, 0, 0, 0⟩
/-- What field does. -/
def RetFd (w : World) (r : Option Val) (e : Ending) (w' : World) : Prop := Ext w w' ∧ match r with
  | some v => e = .returned (valA v)
  | none => e = .panicked [refusal 16]
theorem bare_ok : ∀ k : Int, (k = 1 ∨ k = 2 ∨ k = 5) → chk (bareV k) = 0 ∧ kindT (tagV (bareV k)) = k ∧ vErr [bareV k] = 0 := by
  intro k hk
  rcases hk with rfl | rfl | rfl <;> decide +kernel
set_option maxRecDepth 100000 in
set_option maxHeartbeats 8000000 in
theorem field_any {V : Nat → Prop} (k : Int) (hk : k = 1 ∨ k = 2 ∨ k = 5) (t : Int) (D : List Int) (dv kv : Value) (w : World) (h : RB V w dv D) : Calls Try.prog 49 #[.agg #[.int .i64 t, dv, kv], .int .i64 k] w (RetFd w (readV (tagV (bareV k)) D)) := by
  obtain ⟨hb1, hb2, hb3⟩ := bare_ok k hk
  have HNP := Lib.hid (fun w1 B (hB : w1.heap.size = B) => nodesP_any 0 [bareV k] _ _ (RF.single w1 #[.int .i64 k, .int .i64 0, .string ⟨#[]⟩, .int .i64 0, .int .i64 0, .int .i64 0] (bareV k) B hB rfl) (by simp))
  have HND : Hid (∀ (w1 w2 : World) (u : Value), (nodesRk (RkN 0)).rk (Old w1) w2 u ([bareV k].map (nodeV 0)) → ∃ b off c, u = .slice (some ⟨b, off, none⟩) 1 c ∧ w2.cell? ⟨b, off, none⟩ = some (.int .i64 (tagV (bareV k)))) := fun w1 w2 u hu => by
    obtain ⟨b, off, c, da, dc, ka, kc, hv, _, _, g0, _, _, _, _⟩ := node_at hu (i := 0) (by simp)
    refine ⟨b, off, c, by simpa using hv, ?_⟩
    have : w2.cell? ⟨b, off + 0 * 3, none⟩ = some (.int .i64 (tagV (bareV k))) := g0
    simpa using this
  have hval : valsE [((tagV (bareV k), D, []) : NodeOf (Nd 0))] = if readV (tagV (bareV k)) D = none then 16 else 0 := by
    have hkz : kindT (tagV (bareV k)) ≠ 0 := by rw [hb2]; omega
    have e1 : errV ((tagV (bareV k), D, []) : NodeOf (Nd 0)) = if readV (tagV (bareV k)) D = none then 16 else 0 := by
      unfold errV
      rw [if_neg (by rintro (h | h); exact hkz h; simp at h)]
    unfold valsE
    rw [List.map_cons, List.map_nil, e1]
    split <;> rfl
  have HVO : Hid (∀ v, readV (tagV (bareV k)) D = some v → valsV [((tagV (bareV k), D, []) : NodeOf (Nd 0))] = [v]) := fun v hv => by
    unfold valsV
    rw [if_pos (by rw [hval, hv]; rfl)]
    have : valsOf [((tagV (bareV k), D, []) : NodeOf (Nd 0))] = [v] := by unfold valsOf; simp [hv]
    exact this
  have HVN : Hid (readV (tagV (bareV k)) D = none → valsV [((tagV (bareV k), D, []) : NodeOf (Nd 0))] = []) := fun hv => by
    unfold valsV
    rw [if_neg (by rw [hval, hv]; decide)]
  have HVE := Lib.hid hval
  have HBV := Lib.hid hb3
  obtain ⟨da, dc, rfl, _, _⟩ := h.form
  have HVP : Hid (∀ (w1 W1 : World) B, w1.heap.size = B → Ext w w1 → Ext (w1.alloc (.cells #[.int .i64 (tagV (bareV k)), .slice da D.length dc, .slice none 0 0] 95)) W1 → Calls Try.prog 50 #[.slice (some ⟨B, 0, none⟩) 1 1] W1 (RetVE W1 (valsV [((tagV (bareV k), D, []) : NodeOf (Nd 0))]) (valsE [((tagV (bareV k), D, []) : NodeOf (Nd 0))]))) := fun w1 W1 B hB he hx =>
    valuesP_any (RkN 0) [((tagV (bareV k), D, []) : NodeOf (Nd 0))] _ _ (V := Any) ((nodesRk (RkN 0)).ext (RS.one w1 _ _ B hB _ rfl ⟨_, _, rfl, ((h.any).ext he).ext ((Ext.refl _).alloc _), rk_nil 0 _ _⟩ (fun h => h)) hx) (by simp)
  clear h hval hb1 hb2 hb3
  generalize valsV [((tagV (bareV k), D, []) : NodeOf (Nd 0))] = VL at *
  generalize valsE [((tagV (bareV k), D, []) : NodeOf (Nd 0))] = VE at *
  generalize readV (tagV (bareV k)) D = rv at *
  generalize tagV (bareV k) = tg at *
  generalize D.length = dl at *
  go_enter Try.func49, Try.ntmps49
  go_upto_region 1 with fail
  have B0 := (Bk.new w #[.int .i64 t, .slice da dl dc, kv] 95 w.heap.size rfl).alloc (.cells #[.int .i64 0, .int .i64 0, .string ⟨#[]⟩, .int .i64 0, .int .i64 0, .int .i64 0] 78)
  have B1 := Bk.new (w.alloc (.cells #[.int .i64 t, .slice da dl dc, kv] 95)) #[.int .i64 0, .int .i64 0, .string ⟨#[]⟩, .int .i64 0, .int .i64 0, .int .i64 0] 78 (w.heap.size + 1) (by simp)
  have X0 : Ext w ((w.alloc (.cells #[.int .i64 t, .slice da dl dc, kv] 95)).alloc (.cells #[.int .i64 0, .int .i64 0, .string ⟨#[]⟩, .int .i64 0, .int .i64 0, .int .i64 0] 78)) := ((Ext.refl w).alloc _).alloc _
  generalize (w.alloc (.cells #[.int .i64 t, .slice da dl dc, kv] 95)).alloc (.cells #[.int .i64 0, .int .i64 0, .string ⟨#[]⟩, .int .i64 0, .int .i64 0, .int .i64 0] 78) = W at *
  have q0 : ∀ j, W.cell? ⟨w.heap.size, j, none⟩ = (#[.int .i64 t, .slice da dl dc, kv] : Array Value)[j]? := B0.cell
  go_wp2_with fail
  refine (HNP.out W _ rfl).mono ?_
  rintro e w2 (⟨he, _⟩ | ⟨_, a2, c2, rfl, x2, r2⟩)
  · exact absurd HBV.out he
  obtain ⟨b, off, cc, hu, g0⟩ := HND.out _ _ _ r2
  simp only [List.length_cons, List.length_nil, Nat.zero_add, Value.slice.injEq, true_and] at hu
  obtain ⟨rfl, rfl⟩ := hu
  have E2 : Ext W w2 := ((Ext.refl W).alloc _).trans x2
  have X2 := X0.trans E2
  have B02 := B0.ext E2
  have B12 := B1.ext E2
  have q2 : ∀ j, w2.cell? ⟨w.heap.size, j, none⟩ = (#[.int .i64 t, .slice da dl dc, kv] : Array Value)[j]? := B02.cell
  clear r2 x2 q0 B0 B1 X0 E2
  simp only [List.length_cons, List.length_nil, Nat.zero_add]
  go_upto_region 4 with fail
  have HBC : Hid (∀ w', Ext w2 w' → w'.cell? ⟨b, off, none⟩ = some (.int .i64 tg) ∧ ∀ j, w'.cell? ⟨w.heap.size, j, none⟩ = (#[.int .i64 t, .slice da dl dc, kv] : Array Value)[j]?) := fun w' he => ⟨he.cell g0, (B02.ext he).cell⟩
  have HV2 := Lib.hid (HVP.out w2 _ w2.heap.size rfl X2 (Ext.refl _).drew)
  clear q2 g0 B02
  go_region_held3 (fun w' => w'.cell? ⟨b, off, none⟩ = some (.int .i64 tg) ∧ ∀ j, w'.cell? ⟨w.heap.size, j, none⟩ = (#[.int .i64 t, .slice da dl dc, kv] : Array Value)[j]?)
    (first | (exact HBC.out _ (by first | (with_reducible exact (Ext.refl w2).drew) | (with_reducible exact ((Ext.refl w2).alloc _).drew) | (with_reducible exact D1))) | fail)
    (first
      | (go_at_call 50; (with_reducible refine HV2.out.mono ?_); rintro e y1 ⟨a5, c5, rfl, t1, r5⟩; have D1 : Ext w2 y1 := ((Ext.refl w2).alloc _).drew.trans t1; have R5 := Lib.hid (r5 Any (fun _ h => h.elim)); clear r5; clear t1)
      | fail)
  have X4 := X2.trans D1
  have B14 := B12.ext D1
  clear HBC HV2 HVP HNP HND B12 X2 D1
  cases rv with
  | none =>
    have hve : VE = 16 := by rw [HVE.out]; rfl
    have hvl : VL = [] := HVN.out rfl
    subst hve hvl
    simp only [List.length_nil]
    go_wp2_with fail
    refine (refuse_bad 16 (by decide) _).mono ?_
    rintro e w5 ⟨rfl, rfl⟩
    go_wp2_with fail
    exact ⟨rfl, X4, rfl⟩
  | some y =>
    have hve : VE = 0 := by rw [HVE.out]; rfl
    have hvl : VL = [y] := HVO.out y rfl
    subst hve hvl
    obtain ⟨b', off', c', hv, g0, g1, g2, g3, g4, g5⟩ := val_get R5.out (i := 0) (x := y) rfl
    simp only [List.length_cons, List.length_nil, Nat.zero_add, Value.slice.injEq, true_and, Nat.zero_mul, Nat.add_zero] at hv g0 g1 g2 g3 g4 g5
    obtain ⟨rfl, rfl⟩ := hv
    obtain ⟨gk, gn, gs, ga, gb, gc⟩ := y
    simp only at g0 g1 g2 g3 g4 g5
    have z4 : ∀ j, y1.cell? ⟨w.heap.size + 1, j, none⟩ = (#[.int .i64 0, .int .i64 0, .string ⟨#[]⟩, .int .i64 0, .int .i64 0, .int .i64 0] : Array Value)[j]? := B14.cell
    have h4 := fun j => B14.frozen j
    simp only [List.length_cons, List.length_nil, Nat.zero_add]
    go_wp2_with fail
    change bodyPost Try.prog Try.f49 _ Exit.ret _ (put y1 (w.heap.size + 1) 0 [.int .i64 gk, .int .i64 gn, .string gs, .int .i64 ga, .int .i64 gb, .int .i64 gc])
    have Q4 := (put_all (vs := [.int .i64 gk, .int .i64 gn, .string gs, .int .i64 ga, .int .i64 gb, .int .i64 gc]) B14 rfl).cell
    have XX := put_ext (a := w) (Nat.le_succ _) [.int .i64 gk, .int .i64 gn, .string gs, .int .i64 ga, .int .i64 gb, .int .i64 gc] 0 y1 X4
    generalize put y1 (w.heap.size + 1) 0 [.int .i64 gk, .int .i64 gn, .string gs, .int .i64 ga, .int .i64 gb, .int .i64 gc] = W9 at *
    exact bodyPost_ret (v := .agg #[.int .i64 gk, .int .i64 gn, .string gs, .int .i64 ga, .int .i64 gb, .int .i64 gc]) (by simp [results, Try.results49, go_sem, Q4]) rfl ⟨XX, rfl⟩
end Go.Proofs.Ytimnepfdpehdmaa

namespace Go.Proofs.Ytimnepfdpehdmaa
open Go.RowKit

/-- The kinds of the seven fields. -/
def kindH (k : Nat) : Int := ([2, 2, 5, 2, 2, 1, 2] : List Int).getD k 0
/-- The value of field k. -/
noncomputable def rdH (l : List (NodeOf (Nd 5))) (k : Nat) : Option Val := (l[k]?).bind fun x => readV (tagV (bareV (kindH k))) x.2.1
/-- The nodes of the values. -/
def lastK (l : List (NodeOf (Nd 5))) : List (NodeOf (Nd 4)) := ((l[7]?).map fun x => (x.2.2 : List (NodeOf (Nd 4)))).getD []
/-- Bytes are those of a message. -/
structure DecOk (bs : List Int) (m : Msg) : Prop where
  top : ∃ (dd : List Int) (kids : List (NodeOf (Nd 5))), decTop 7 bs = ([((97, dd, kids) : NodeOf (Nd 6))], 0) ∧ ordOk kids ∧ (∀ k : Nat, k < 7 → rdH kids k = (headM m)[k]?) ∧ valsE (lastK kids) = 0 ∧ valsOf (lastK kids) = m.vals
  chk : chkM m = 0
theorem rdH_kids (m : Msg) (h : chkM m = 0) (hn : numOk m) (k : Nat) (hk : k < 7) : rdH (kidsK 4 m) k = (headM m)[k]? := by
  obtain ⟨_, hst, _, _⟩ := chkM_zero m h
  have hv := vErr_zero _ (vErr_head m hst)
  unfold numOk at hn
  have key : ∀ (v : Val), (headM m)[k]? = some v → tagV (bareV (kindH k)) = tagV v → inN v → rdH (kidsK 4 m) k = (headM m)[k]? := fun v h1 h2 h3 => by
    unfold rdH
    rw [kidsK_head 4 m k hk v h1, h1]
    show readV (tagV (bareV (kindH k))) (datV v) = some v
    rw [h2]
    exact readV_back v (hv v (List.mem_of_getElem? h1)) h3
  obtain rfl | rfl | rfl | rfl | rfl | rfl | rfl : k = 0 ∨ k = 1 ∨ k = 2 ∨ k = 3 ∨ k = 4 ∨ k = 5 ∨ k = 6 := by omega
  · exact key _ rfl rfl (by unfold inN; simp only; omega)
  · exact key _ rfl rfl (by unfold inN; simp only; omega)
  · exact key _ rfl rfl (by unfold inN; simp only; omega)
  · exact key _ rfl rfl (by unfold inN; simp only; omega)
  · exact key _ rfl rfl (by unfold inN; simp only; omega)
  · exact key _ rfl rfl (by unfold inN tru; cases m.test <;> simp)
  · exact key _ rfl rfl (by unfold inN; simp only; omega)
theorem kids_ord (m : Msg) : ordOk (kidsK 4 m) := by
  refine ⟨kidsK_len 4 m, ?_, fun k hk => ?_⟩
  · unfold tagAt; rw [kidsK_last]; rfl
  · obtain ⟨v, hv⟩ : ∃ v, (headM m)[k]? = some v := ⟨_, List.getElem?_eq_getElem (show k < (headM m).length from hk)⟩
    unfold tagAt; rw [kidsK_head 4 m k hk v hv]; rfl
theorem lastK_kids (m : Msg) : lastK (kidsK 4 m) = m.vals.map (nodeV 4) := by
  unfold lastK
  rw [kidsK_last]
  rfl
/-- What was encoded decodes to itself. -/
theorem DecOk.back {m : Msg} (h : encME m = 0) (hn : ∀ x ∈ m.vals, inN x) : DecOk (encMB m) m := by
  have hc := encME_chk m h
  obtain ⟨h1, _, _, h4⟩ := chkM_zero m hc
  have hv := vals_back 4 m.vals h4 hn
  exact ⟨⟨[], kidsK 4 m, msg_dec m hc h, kids_ord m, rdH_kids m hc h1, by rw [lastK_kids]; exact hv.1, by rw [lastK_kids]; exact hv.2⟩, hc⟩
/-- What decodes was encoded so. -/
theorem DecOk.canon {bs : List Int} {m : Msg} (hb : Byt bs) (h : DecOk bs m) : encME m = 0 ∧ encMB m = bs := by
  obtain ⟨⟨dd, kids, ht, ho, hh, he, hv⟩, hc⟩ := h
  have h0 : (decTop 7 bs).2 = 0 := by rw [ht]
  have hcan := canonical 7 bs (by omega) hb h0
  have hbyt := byt_decTop 7 bs hb
  rw [ht] at hcan hbyt
  obtain ⟨hchk, _, _, _⟩ := encErr_zero hcan.1
  have hbk : ∀ x : NodeOf (Nd 5), x ∈ kids → Byt x.2.1 ∧ bytN 5 x.2.2 := (hbyt ((97, dd, kids) : NodeOf (Nd 6)) (List.mem_singleton.2 rfl)).2
  have e1 : errS (chkN 6) 0 ((97, dd, kids) : NodeOf (Nd 6)) = 0 := fstErr_zero (errS (chkN 6) 0) [((97, dd, kids) : NodeOf (Nd 6))] hchk _ (List.mem_singleton.2 rfl)
  obtain ⟨_, _, hn1, _, hck⟩ := errS_zero e1
  have hdd : dd = [] := hn1 (show nestB 97 = true by decide +kernel)
  have e2 : ∀ x : NodeOf (Nd 5), x ∈ kids → errS (chkN 5) 1 x = 0 := fun x hx => fstErr_zero (errS (chkN 5) 1) kids hck x hx
  have hk : kids = kidsK 4 m := by
    apply list_eq_of kids (kidsK 4 m) (by rw [ho.1, kidsK_len])
    intro i x y hx hy
    have hil := get_lt hx
    rw [ho.1] at hil
    obtain ⟨_, _, hx1, hx2, _⟩ := errS_zero (e2 x (List.mem_of_getElem? hx))
    rcases Nat.lt_or_ge i 7 with hi | hi
    · have ht := ho.2.2 i hi
      unfold tagAt at ht
      rw [hx] at ht
      simp only [Option.map_some, Option.some.injEq] at ht
      obtain ⟨v, hvv⟩ : ∃ v, (headM m)[i]? = some v := ⟨_, List.getElem?_eq_getElem (show i < (headM m).length from hi)⟩
      have hr := hh i hi
      unfold rdH at hr
      rw [hx, hvv] at hr
      have hr' : readV (tagV (bareV (kindH i))) x.2.1 = some v := hr
      obtain ⟨_, _, hd, _⟩ := readV_canon _ _ (hbk x (List.mem_of_getElem? hx)).1 v hr'
      rw [kidsK_head 4 m i hi v hvv] at hy
      injection hy with hy
      have hnn : nestB x.1 = false := by
        rw [ht]
        exact (tag_head ⟨i, hi⟩).2
      rw [← hy, hd, ← ht]
      have hkz := hx2 hnn
      obtain ⟨x1, x2, x3⟩ := x
      simp only at hkz ⊢
      rw [hkz]
    · obtain rfl : i = 7 := by omega
      have ht := ho.2.1
      unfold tagAt at ht
      rw [hx] at ht
      simp only [Option.map_some, Option.some.injEq] at ht
      rw [kidsK_last] at hy
      injection hy with hy
      have hdz := hx1 (by rw [ht]; decide +kernel)
      have hlk : lastK kids = x.2.2 := by
        unfold lastK
        rw [hx]
        rfl
      have hvc := vals_canon 4 (lastK kids) (fun z hz => ((hbk x (List.mem_of_getElem? hx)).2 z (by rw [hlk] at hz; exact hz)).1) he
      have h3 : m.vals.map (nodeV 4) = x.2.2 := by rw [← hv, hvc.2.1, hlk]
      rw [← hy]
      obtain ⟨x1, x2, x3⟩ := x
      simp only at ht hdz h3 ⊢
      rw [ht, hdz, ← h3]
      rfl
  subst hdd
  rw [hk] at hcan
  have o := out_node m 4
  have hce : encErr 7 [nodeK 4 m] = 0 := hcan.1
  have hco : encOut 7 [nodeK 4 m] = bs := hcan.2
  unfold encME encMB
  rw [if_pos hc, if_pos hc]
  exact ⟨o.2.symm.trans hce, o.1.symm.trans hco⟩
/-- A value of a kind is made of its own parts. -/
theorem form_two {v : Val} (h : chk v = 0) (hk : v.kind = 2) : v = ⟨2, v.n, noStr, 0, 0, 0⟩ := by
  have := back_of h
  unfold backV at this
  rw [if_pos (.inr hk), hk] at this
  exact this.symm
theorem form_five {v : Val} (h : chk v = 0) (hk : v.kind = 5) : v = ⟨5, 0, noStr, v.sec, v.frac, v.qual⟩ := by
  have := back_of h
  unfold backV at this
  rw [if_neg (by omega), if_neg (by omega), hk] at this
  exact this.symm
theorem form_one {v : Val} (h : chk v = 0) (hk : v.kind = 1) : v = tru (v.n == 1) := by
  have h1 := back_of h
  unfold backV at h1
  rw [if_pos (.inl hk), hk] at h1
  have h2 : v.n = 0 ∨ v.n = 1 := by
    unfold chk at h
    rw [if_pos hk] at h
    split at h
    · split at h
      · rename_i h3; exact h3
      · omega
    · omega
  rw [← h1]
  unfold tru
  rcases h2 with h2 | h2 <;> rw [h2] <;> rfl
end Go.Proofs.Ytimnepfdpehdmaa

namespace Go.Proofs.Ytimnepfdpehdmaa
open Go.RowKit

/-- The message of seven values and the values behind them. -/
def mkM (vv : Nat → Val) (l : List Val) : Msg := ⟨(vv 0).n, (vv 1).n, (vv 2).sec, (vv 2).frac, (vv 2).qual, (vv 3).n, (vv 4).n, (vv 5).n == 1, (vv 6).n, l⟩
theorem msg_same {m m' : Msg} (h : ∀ k : Nat, k < 7 → (headM m)[k]? = (headM m')[k]?) (hv : m.vals = m'.vals) : m = m' := by
  have h0 := h 0 (by omega)
  have h1 := h 1 (by omega)
  have h2 := h 2 (by omega)
  have h3 := h 3 (by omega)
  have h4 := h 4 (by omega)
  have h5 := h 5 (by omega)
  have h6 := h 6 (by omega)
  obtain ⟨a1, a2, a3, a4, a5, a6, a7, a8, a9, la⟩ := m
  obtain ⟨b1, b2, b3, b4, b5, b6, b7, b8, b9, lb⟩ := m'
  simp only [headM, List.getElem?_cons_zero, List.getElem?_cons_succ, Option.some.injEq, Val.mk.injEq, true_and, and_true] at h0 h1 h2 h3 h4 h6
  simp only [headM, List.getElem?_cons_zero, List.getElem?_cons_succ, Option.some.injEq, tru, Val.mk.injEq, true_and, and_true] at h5
  simp only at hv
  obtain ⟨h2a, h2b, h2c⟩ := h2
  subst h0 h1 h2a h2b h2c h3 h4 h6 hv
  have : a8 = b8 := by cases a8 <;> cases b8 <;> simp_all
  rw [this]
theorem kids_byt {bs : List Int} (hb : Byt bs) {dd : List Int} {kids : List (NodeOf (Nd 5))} (ht : decTop 7 bs = ([((97, dd, kids) : NodeOf (Nd 6))], 0)) : ∀ x : NodeOf (Nd 5), x ∈ kids → Byt x.2.1 := by
  have hbyt := byt_decTop 7 bs hb
  rw [ht] at hbyt
  have h2 : bytN 6 kids := (hbyt ((97, dd, kids) : NodeOf (Nd 6)) (List.mem_singleton.2 rfl)).2
  exact fun x hx => (h2 x hx).1
theorem rdH_of {bs : List Int} (hb : Byt bs) {dd : List Int} {kids : List (NodeOf (Nd 5))} (ht : decTop 7 bs = ([((97, dd, kids) : NodeOf (Nd 6))], 0)) {k : Nat} (hk : k < 7) {v : Val} (h : rdH kids k = some v) : chk v = 0 ∧ v.kind = kindH k := by
  unfold rdH at h
  cases hx : kids[k]? with
  | none => rw [hx] at h; cases h
  | some x =>
    rw [hx] at h
    have h' : readV (tagV (bareV (kindH k))) x.2.1 = some v := h
    obtain ⟨c1, _, _, _, _, c6⟩ := readV_canon _ _ (kids_byt hb ht x (List.mem_of_getElem? hx)) v h'
    refine ⟨c1, ?_⟩
    rw [c6]
    obtain rfl | rfl | rfl | rfl | rfl | rfl | rfl : k = 0 ∨ k = 1 ∨ k = 2 ∨ k = 3 ∨ k = 4 ∨ k = 5 ∨ k = 6 := by omega
    all_goals rfl
theorem head_mk {bs : List Int} (hb : Byt bs) {dd : List Int} {kids : List (NodeOf (Nd 5))} (ht : decTop 7 bs = ([((97, dd, kids) : NodeOf (Nd 6))], 0)) {vv : Nat → Val} (h : ∀ j : Nat, j < 7 → rdH kids j = some (vv j)) (l : List Val) : ∀ k : Nat, k < 7 → rdH kids k = (headM (mkM vv l))[k]? := by
  intro k hk
  obtain ⟨c1, c2⟩ := rdH_of hb ht hk (h k hk)
  rw [h k hk]
  obtain rfl | rfl | rfl | rfl | rfl | rfl | rfl : k = 0 ∨ k = 1 ∨ k = 2 ∨ k = 3 ∨ k = 4 ∨ k = 5 ∨ k = 6 := by omega
  · exact congrArg some (form_two c1 c2)
  · exact congrArg some (form_two c1 c2)
  · exact congrArg some (form_five c1 c2)
  · exact congrArg some (form_two c1 c2)
  · exact congrArg some (form_two c1 c2)
  · exact congrArg some (form_one c1 c2)
  · exact congrArg some (form_two c1 c2)
theorem DecOk.only {bs : List Int} (hb : Byt bs) {dd : List Int} {kids : List (NodeOf (Nd 5))} (ht : decTop 7 bs = ([((97, dd, kids) : NodeOf (Nd 6))], 0)) {vv : Nat → Val} (h : ∀ j : Nat, j < 7 → rdH kids j = some (vv j)) {m : Msg} (hm : DecOk bs m) : valsE (lastK kids) = 0 ∧ m = mkM vv (valsV (lastK kids)) := by
  obtain ⟨⟨dd', kids', ht', _, hh, he, hv⟩, _⟩ := hm
  rw [ht] at ht'
  injection ht' with ht' _
  injection ht' with ht' _
  injection ht' with _ ht'
  injection ht' with _ ht'
  subst ht'
  refine ⟨he, msg_same (fun k hk => ?_) ?_⟩
  · rw [← hh k hk]
    exact head_mk hb ht h _ k hk
  · show m.vals = valsV (lastK kids)
    unfold valsV
    rw [if_pos he, hv]
theorem DecOk.mk' {bs : List Int} (hb : Byt bs) {dd : List Int} {kids : List (NodeOf (Nd 5))} (ht : decTop 7 bs = ([((97, dd, kids) : NodeOf (Nd 6))], 0)) (ho : ordOk kids) {vv : Nat → Val} (h : ∀ j : Nat, j < 7 → rdH kids j = some (vv j)) (he : valsE (lastK kids) = 0) (hc : chkM (mkM vv (valsV (lastK kids))) = 0) : DecOk bs (mkM vv (valsV (lastK kids))) := by
  refine ⟨⟨dd, kids, ht, ho, head_mk hb ht h _, he, ?_⟩, hc⟩
  show valsOf (lastK kids) = valsV (lastK kids)
  unfold valsV
  rw [if_pos he]
theorem lastK_len {bs : List Int} {dd : List Int} {kids : List (NodeOf (Nd 5))} (ht : decTop 7 bs = ([((97, dd, kids) : NodeOf (Nd 6))], 0)) : (lastK kids).length ≤ 1500 := by
  have h1 := decTop_cnt 7 bs
  rw [ht] at h1
  have h2 : cntN 7 [((97, dd, kids) : NodeOf (Nd 6))] = 1 + (dd.length + cntN 6 kids) := by
    show cntS (cntN 6) [((97, dd, kids) : NodeOf (Nd 6))] = _
    simp [cntS]
  have h3 : cntN 6 kids ≤ 1500 := by
    have h4 : cntN 7 [((97, dd, kids) : NodeOf (Nd 6))] ≤ 1500 := h1
    omega
  unfold lastK
  cases hx : kids[7]? with
  | none => exact Nat.zero_le _
  | some x =>
    have h5 := sum_mem_le (fun x : NodeOf (Nd 5) => x.2.1.length + cntN 5 x.2.2) kids x (List.mem_of_getElem? hx)
    have h6 : (kids.map (fun x : NodeOf (Nd 5) => x.2.1.length + cntN 5 x.2.2)).sum ≤ cntN 6 kids := Nat.le_add_left _ _
    have h7 : (x.2.2 : List (NodeOf (Nd 4))).length ≤ cntN 5 x.2.2 := Nat.le_add_right _ _
    have h8 : cntN 5 x.2.2 ≤ x.2.1.length + cntN 5 x.2.2 := Nat.le_add_left _ _
    exact Nat.le_trans h7 (Nat.le_trans h8 (Nat.le_trans h5 (Nat.le_trans h6 h3)))
end Go.Proofs.Ytimnepfdpehdmaa
