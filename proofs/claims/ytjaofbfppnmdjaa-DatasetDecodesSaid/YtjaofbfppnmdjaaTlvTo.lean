/- The contract of To of the statements of layer 10: the nodes of the program as nodes of the reference. -/
import Derived.Test.YtjaofbfppnmdjaaTlvB
namespace Go.Proofs.Ytjaofbfppnmdjaa
open Go.RowKit
attribute [local go_sem ↓] Go.wp_at_zero Go.wp_at_succ

theorem info_rnode : (Try.prog.info? 98).map (fun i => (i.zero, i.size, i.bytes)) = some (some (.agg #[.int .i64 0, .slice none 0 0, .slice none 0 0]), 3, 56) := by kernel_rfl

/-- It returns a list of kids that reads as l, outside V. -/
def RetK {α : Type} (R : Rk α) (V : Nat → Prop) (w : World) (l : List α) (e : Ending) (w' : World) : Prop := ∃ a c, e = .returned (.slice a l.length c) ∧ Ext w w' ∧ R.rk V w' (.slice a l.length c) l

/-- The blocks of V, and the row of v. -/
def With (V : Nat → Prop) (v : Value) : Nat → Prop := fun k => V k ∨ v.ownBlock = some k
/-- A row that is being built: v owns the cells css, which read as l outside V and v's own row. -/
def Built {α : Type} (R : Rk α) (V : Nat → Prop) (base : Nat) (e : TypeId) (w : World) (v : Value) (l : List (NodeOf α)) : Prop :=
  ∃ css : List (List Value), w.ownsRow base e 3 v l.length css.flatten ∧ css.length = l.length ∧ (∀ cs ∈ css, cs.length = 3) ∧ ∀ i (h1 : i < l.length) (h2 : i < css.length), nodeRep R (With V v) w l[i] css[i]
theorem Built.nil {α : Type} (R : Rk α) (V : Nat → Prop) (base : Nat) (e : TypeId) (w : World) : Built R V base e w (.slice none 0 0) ([] : List (NodeOf α)) :=
  ⟨[], World.ownsRow_nil _ _ _ _, rfl, fun _ h => (by simp at h), fun i h _ => (by simp at h)⟩
theorem nodeRep.agree {α : Type} {R : Rk α} {V : Nat → Prop} {w w' : World} {x : NodeOf α} {cs : List Value} (h : nodeRep R V w x cs) (hw : Agree V w w') : nodeRep R V w' x cs := by
  obtain ⟨dv, kv, hc, hd, hk⟩ := h
  exact ⟨dv, kv, hc, hd.agree hw, R.agree hk hw⟩
theorem nodeRep.weak {α : Type} {R : Rk α} {V V' : Nat → Prop} {w : World} {x : NodeOf α} {cs : List Value} (h : nodeRep R V w x cs) (hv : ∀ k, k < w.heap.size → V' k → V k) : nodeRep R V' w x cs := by
  obtain ⟨dv, kv, hc, hd, hk⟩ := h
  exact ⟨dv, kv, hc, hd.weak hv, R.weak hk hv⟩
/-- One more element. w: ahead of the element's own call; w1: where the row was still v; w2: behind the append. -/
theorem Built.push {α : Type} {R : Rk α} {V : Nat → Prop} {base : Nat} {e : TypeId} {w w1 w2 : World} {v v' : Value} {l : List (NodeOf α)} {x : NodeOf α} {css : List (List Value)} {cs : List Value}
    (hlen : css.length = l.length) (h3 : ∀ cs ∈ css, cs.length = 3) (hrep : ∀ i (h1 : i < l.length) (h2 : i < css.length), nodeRep R (With V v) w l[i] css[i]) (hcs : cs.length = 3)
    (hw1 : Ext w w1) (hx : nodeRep R (With V v) w1 x cs) (hown : w2.ownsRow base e 3 v' (l.length + 1) (css.flatten ++ cs)) (hg : w1.grownBy w2 v.ownBlock) (hat : v'.ownBlock = v.ownBlock ∨ v'.ownBlock = some w1.heap.size) :
    Built R V base e w2 v' (l ++ [x]) := by
  have ha : Agree (With V v) w1 w2 := Agree.of_grown hg (fun k hk => Or.inr hk)
  have hw : ∀ k, k < w1.heap.size → With V v' k → With V v k := by
    intro k hk h
    rcases h with h | h
    · exact Or.inl h
    · rcases hat with e | e
      · exact Or.inr (by rw [← e]; exact h)
      · rw [e] at h; injection h with h; omega
  refine ⟨css ++ [cs], by simpa using hown, by simp [hlen], ?_, ?_⟩
  · intro c hc
    rcases List.mem_append.1 hc with hc | hc
    · exact h3 c hc
    · simp at hc; subst hc; exact hcs
  · have key : ∀ (y : NodeOf α) (c : List Value), nodeRep R (With V v) w1 y c → nodeRep R (With V v') w2 y c := by
      intro y c hy
      have h1 : nodeRep R (fun k => With V v k ∨ With V v' k) w1 y c := hy.weak (fun k hk h => h.elim id (hw k hk))
      have h2 := h1.agree (ha.mono (fun k hk => Or.inl hk))
      exact h2.weak (fun k _ hk => Or.inr hk)
    intro i h1 h2
    by_cases hi : i < l.length
    · have hi2 : i < css.length := by omega
      rw [List.getElem_append_left hi, List.getElem_append_left hi2]
      exact key _ _ ((hrep i hi hi2).agree (hw1.agree _))
    · have hi3 : i = l.length := by simp at h1; omega
      subst hi3
      rw [List.getElem_append_right (Nat.le_refl _), List.getElem_append_right (by omega)]
      simp only [Nat.sub_self, List.getElem_cons_zero, hlen]
      exact key _ _ hx
theorem Built.done {α : Type} {R : Rk α} {V : Nat → Prop} {base : Nat} {e : TypeId} {w : World} {v : Value} {l : List (NodeOf α)} (h : Built R V base e w v l) (hV : ∀ k, V k → k < base) : (nodesRk R).rk V w v l := by
  obtain ⟨css, hown, hlen, h3, hrep⟩ := h
  exact RS.of_own css hown hlen h3 (fun i h1 h2 => (hrep i h1 h2).weak (fun k _ hk => Or.inl hk)) hV
theorem With.lt {V : Nat → Prop} {base : Nat} {e : TypeId} {w : World} {v : Value} {n : Nat} {xs : List Value} (hV : ∀ k, V k → k < w.heap.size) (h : w.ownsRow base e 3 v n xs) : ∀ k, With V v k → k < w.heap.size := by
  intro k hk
  rcases hk with hk | hk
  · exact hV k hk
  · exact (h.lt k hk).2

set_option maxRecDepth 100000 in
set_option maxHeartbeats 1000000 in
theorem to_step {α : Type} (R : Rk α) (V : Nat → Prop) (l : List (NodeOf α)) (v : Value) (w : World) (h : (nodesRk R).rk V w v l) (hV : ∀ k, V k → k < w.heap.size)
    (hk : ∀ x ∈ l, ∀ V1 w1 kv, (∀ k, V1 k → k < w1.heap.size) → R.rk V1 w1 kv x.2.2 → Calls Try.prog 23 #[kv] w1 (RetK R V1 w1 x.2.2))
    (hb : l.length * 56 ≤ 140737488355328) : Calls Try.prog 23 #[v] w (RetK (nodesRk R) V w l) := by
  obtain ⟨i0, hi0, hz0, hz1, hz2⟩ := info_parts info_rnode
  obtain ⟨a, c, rfl, hc1, hc2⟩ := (nodesRk R).form h
  have HH := Lib.hid h
  have HK := Lib.hid hk
  have HV := Lib.hid hV
  clear h hk hc2 hV
  go_enter Try.func23, Try.ntmps23
  go_wp2
  go_loopw [3, 4] (fun o i wr => ∃ (k : Nat), k ≤ l.length ∧ i = .int .i64 k ∧ Built R V w.heap.size 98 wr o (l.take k) ∧ Ext w wr) (fun _ i _ => l.length - (intOf i).toNat)
  case atStart => exact ⟨0, Nat.zero_le _, rfl, Built.nil _ _ _ _ _, Ext.refl _⟩
  case round =>

    obtain ⟨k, hk1, rfl, hbuilt, hx⟩ := hrel
    by_cases hlt : k < l.length
    · obtain ⟨css, hown, hlen, h3, hrep⟩ := hbuilt
      have hVr : ∀ g, With V u3 g → g < wr.heap.size := With.lt (fun g hg => hx.lt (HV.out g hg)) hown
      have hrk : (nodesRk R).rk (With V u3) wr (.slice a l.length c) l := (nodesRk R).ext ((nodesRk R).weak HH.out (fun g hg hw => by
        rcases hw with hw | hw
        · exact hw
        · have := (hown.lt g hw).1; omega)) hx
      obtain ⟨b, off, c', da, dc, ka, kc, hv, hcap, hbV, g0, g1, g2, hd, hkk⟩ := node_at hrk hlt
      have HB := Lib.hid hbV
      clear hbV
      have hcall := Lib.hid (HK.out l[k] (List.getElem_mem hlt))
      have HT := Lib.hid (List.take_succ_eq_append_getElem hlt)
      have hlk : (l.take k).length = k := by simp; omega
      rw [hlk] at hown
      generalize hx1 : l[k] = x at *
      obtain ⟨t, d, ks⟩ := x
      simp only at *
      have HX := Lib.hid hx1
      have HKK := Lib.hid hkk
      have HD := Lib.hid hd
      have HVR := Lib.hid hVr
      have HL := Lib.hid hlen
      have H3 := Lib.hid h3
      have HR := Lib.hid hrep
      have HO := Lib.hid hown
      have HLK := Lib.hid hlk
      simp only [Value.slice.injEq] at hv
      obtain ⟨rfl, -, rfl⟩ := hv
      clear hx1 hkk hd hVr hrk hlen h3 hrep hown hlk
      have hki : (k : Int) < l.length := by omega
      go_wp2
      go_region_held3 (fun w' => w'.cell? ⟨b, off + k * 3, none⟩ = some (.int .i64 t) ∧ w'.cell? ⟨b, off + k * 3 + 1, none⟩ = some (.slice da d.length dc) ∧ w'.cell? ⟨b, off + k * 3 + 2, none⟩ = some (.slice ka ks.length kc))
        (first | exact ⟨g0, g1, g2⟩ | exact ⟨he1.cell (by exact g0), he1.cell (by exact g1), he1.cell (by exact g2)⟩ | exact ⟨(he1.alloc _).cell (by exact g0), (he1.alloc _).cell (by exact g1), (he1.alloc _).cell (by exact g2)⟩ | exact ⟨(Agree.of_grown hg1 (fun _ hk => Or.inr hk)).cell HB.out ((he1.alloc _).cell (by exact g0)), (Agree.of_grown hg1 (fun _ hk => Or.inr hk)).cell HB.out ((he1.alloc _).cell (by exact g1)), (Agree.of_grown hg1 (fun _ hk => Or.inr hk)).cell HB.out ((he1.alloc _).cell (by exact g2))⟩)
        (first
          | (go_at_call 23; refine (hcall.out _ _ _ (fun g hg => (Ext.refl _).drew.lt (HVR.out g hg)) (R.ext HKK.out (Ext.refl _).drew)).mono ?_; rintro e w1 ⟨ka1, kc1, rfl, he1, hk1⟩)
          | (refine step_append_src _ (by rfl) (.tmp 11) (.tmp 29) _ (by rfl) w.heap.size 98 i0 _ 3 56 Try.underlying35 hi0 hz0 hz1 hz2 (by rfl) (by omega) u3 k css.flatten (by rfl) (own_ext HO.out (((Ext.refl _).drew.trans he1).alloc _)) _ 1 1 _ (by rfl) (Src.lit _ #[.int .i64 t, .slice da d.length dc, .slice ka1 ks.length kc1] _ 3 rfl (by simp [Value.oneCell'])) (by unfold maxLen; omega) (by omega) (by simp; exact Nat.le_succ_of_le (hx.trans ((Ext.refl _).drew.trans he1)).size) ?_; intro A2 c2 w2 hown2 hg1 hat2))
      have HB2 := Lib.hid (Built.push (w := wr) (x := (t, d, ks)) HL.out H3.out HR.out (cs := [.int .i64 t, .slice da d.length dc, .slice ka1 ks.length kc1]) rfl ((((Ext.refl _).drew.trans he1).alloc _) : Ext wr (w1.alloc (.cells #[.int .i64 t, .slice da d.length dc, .slice ka1 ks.length kc1] 98)))
        ⟨_, _, rfl, HD.out.ext (((Ext.refl _).drew.trans he1).alloc _), R.ext hk1 ((Ext.refl _).alloc _)⟩ (by rw [HLK.out]; exact hown2) hg1 hat2)
      have hx2 : Ext w w2 := (hx.trans (((Ext.refl _).drew.trans he1).alloc _)).grown hg1 (fun g hg => (HO.out.lt g hg).1)
      clear hown2 hg1 hat2 hk1 he1
      go_wp2
      go_roundw
      case rel => exact ⟨k + 1, by omega, by go_num, by rw [HT.out]; exact HB2.out, hx2⟩
      case measure => simp [intOf]; omega
    · go_wp2
      obtain ⟨a', c', rfl⟩ := owns_slice hbuilt.choose_spec.1
      go_ret
      have hl := take_all l k (by omega)
      rw [hl] at hbuilt ⊢
      exact ⟨_, _, rfl, hx, hbuilt.done HV.out⟩
theorem to_any : ∀ (n : Nat) (V : Nat → Prop) (l : List (Nd n)) (v : Value) (w : World), (RkN n).rk V w v l → (∀ k, V k → k < w.heap.size) → cntN n l ≤ 1000000000 → Calls Try.prog 23 #[v] w (RetK (RkN n) V w l)
  | 0, V, l, v, w, h, hV, _ => by
    have hl := nd_zero l
    subst hl
    refine (to_step (α := Empty) emptyRk V [] v w (rkn_zero h) hV (fun x hx => by cases hx) (by simp)).mono fun e w' ⟨a, c, he, hx, hr⟩ => ⟨a, c, he, hx, ?_⟩
    obtain ⟨a', c', hv, h1, h2, _⟩ := (show RS V 3 (nodeRep emptyRk V) w' (.slice a 0 c) [] from hr)
    exact (⟨a', c', hv, h1, h2, fun h => absurd rfl h⟩ : RS V 3 (fun _ (_ : Empty) _ => True) w' (.slice a 0 c) [])
  | n + 1, V, l, v, w, h, hV, hb => to_step (RkN n) V l v w h hV (fun x hx V1 w1 kv hV1 hkv => to_any n V1 x.2.2 kv w1 hkv hV1 (by
      have h1 : cntS (cntN n) l ≤ 1000000000 := hb
      have h2 := sum_mem_le (fun x : NodeOf (Nd n) => x.2.1.length + cntN n x.2.2) l x hx
      unfold cntS at h1
      omega)) (by
      have h1 : cntS (cntN n) l ≤ 1000000000 := hb
      unfold cntS at h1
      omega)
/-- No slice among the nodes takes more bytes than a slice that comes in may take: of their sum nothing is asked. -/
def fineS {α : Type} (fk : List α → Prop) (l : List (NodeOf α)) : Prop := l.length * 56 ≤ 140737488355328 ∧ ∀ x ∈ l, x.2.1.length ≤ 140737488355328 ∧ fk x.2.2
def fineN : (n : Nat) → List (Nd n) → Prop
  | 0, _ => True
  | n + 1, l => fineS (fineN n) l
theorem to_fine : ∀ (n : Nat) (V : Nat → Prop) (l : List (Nd n)) (v : Value) (w : World), (RkN n).rk V w v l → (∀ k, V k → k < w.heap.size) → fineN n l → Calls Try.prog 23 #[v] w (RetK (RkN n) V w l)
  | 0, V, l, v, w, h, hV, _ => to_any 0 V l v w h hV (Nat.zero_le _)
  | n + 1, V, l, v, w, h, hV, hb => to_step (RkN n) V l v w h hV (fun x hx V1 w1 kv hV1 hkv => to_fine n V1 x.2.2 kv w1 hkv hV1 ((show fineS (fineN n) l from hb).2 x hx).2) (show fineS (fineN n) l from hb).1
end Go.Proofs.Ytjaofbfppnmdjaa
