/- Messages as nodes, and rows of nodes whose tags are set anew: layer 12. -/
import Derived.Test.YtjaofbfppnmdjaaDatD
import Derived.Test.YtjaofbfppnmdjaaTlvJ
namespace Go.Proofs.Ytjaofbfppnmdjaa
open Go.RowKit

/-- The first k nodes bear the tags from 128 on. -/
def reTag {α : Type} (k : Nat) (l : List (NodeOf α)) : List (NodeOf α) := l.mapIdx fun i x => if i < k then (128 + (i : Int), x.2) else x
theorem reTag_len {α : Type} (k : Nat) (l : List (NodeOf α)) : (reTag k l).length = l.length := by simp [reTag]
theorem reTag_zero {α : Type} (l : List (NodeOf α)) : reTag 0 l = l := by
  apply List.ext_getElem (by simp [reTag])
  intro i h1 h2
  simp [reTag]
theorem reTag_next {α : Type} (k : Nat) (l : List (NodeOf α)) (hk : k < l.length) : reTag (k + 1) l = (reTag k l).set k (128 + (k : Int), ((reTag k l)[k]'(by rw [reTag_len]; exact hk)).2) := by
  apply List.ext_getElem (by simp [reTag])
  intro i h1 h2
  simp only [reTag, List.getElem_mapIdx, List.getElem_set]
  by_cases h : k = i
  · subst h
    simp
  · rw [if_neg h]
    by_cases h3 : i < k
    · rw [if_pos h3, if_pos (by omega)]
    · rw [if_neg h3, if_neg (by omega)]
theorem reTag_get' {α : Type} (k : Nat) (l : List (NodeOf α)) (i : Nat) (hi : i < k) (x : NodeOf α) (hx : l[i]? = some x) : (reTag k l)[i]? = some (128 + (i : Int), x.2) := by
  simp [reTag, List.getElem?_mapIdx, hx, hi]
theorem flatten_set {k : Nat} (hk : 0 < k) : ∀ (css : List (List Value)), (∀ cs ∈ css, cs.length = k) → ∀ i (hi : i < css.length) (v : Value), (css.set i ((css[i]).set 0 v)).flatten = css.flatten.set (i * k) v
  | [], _, i, hi, _ => by simp at hi
  | cs :: css, hl, 0, _, v => by
    have hc : cs.length = k := hl cs (by simp)
    simp only [List.set_cons_zero, List.getElem_cons_zero, List.flatten_cons, Nat.zero_mul]
    rw [List.set_append_left _ _ (by omega)]
  | cs :: css, hl, i + 1, hi, v => by
    have hc : cs.length = k := hl cs (by simp)
    have ih := flatten_set hk css (fun c hcc => hl c (by simp [hcc])) i (by simpa using hi) v
    simp only [List.set_cons_succ, List.getElem_cons_succ, List.flatten_cons]
    rw [ih, List.set_append_right _ _ (by rw [hc, Nat.add_mul]; omega)]
    congr 2
    rw [hc, Nat.add_mul]; omega
/-- A tag in a row that is being built is set anew. -/
theorem Built.setTag {α : Type} {R : Rk α} {V : Nat → Prop} {base : Nat} {e : TypeId} {w : World} {l : List (NodeOf α)} {g n c : Nat} (h : Built R V base e w (.slice (some ⟨g, 0, none⟩) n c) l) (k : Nat) (hk : k < l.length) (t : Int) :
    Built R V base e (w.setCell ⟨g, k * 3, none⟩ (.int .i64 t)) (.slice (some ⟨g, 0, none⟩) n c) (l.set k (t, (l[k]).2)) := by
  obtain ⟨css, hown, hlen, h3, hrep⟩ := h
  have hk2 : k < css.length := by omega
  have ha : Agree (With V (.slice (some ⟨g, 0, none⟩) n c)) w (w.setCell ⟨g, k * 3, none⟩ (.int .i64 t)) := agree_setCell (p := ⟨g, k * 3, none⟩) (Or.inr rfl) _
  refine ⟨css.set k ((css[k]).set 0 (.int .i64 t)), ?_, by simp [hlen], ?_, ?_⟩
  · rw [flatten_set (by omega) css h3 k hk2]
    refine ⟨by simpa using hown.1, .inr ?_⟩
    rcases hown.2 with ⟨hv, _⟩ | ⟨g', cap, cur, hv, hb, hg, hnc, hcm, hcs, ht⟩
    · cases hv
    · simp only [Value.slice.injEq, Option.some.injEq, Addr.mk.injEq, and_true] at hv
      obtain ⟨rfl, rfl, rfl⟩ := hv
      refine ⟨g, c, cur.setIfInBounds (k * 3) (.int .i64 t), by rw [List.length_set], hb, (show Bk w g e cur from hg).setCell (k * 3) _, by rw [List.length_set]; exact hnc, hcm, by simpa using hcs, ?_⟩
      rw [List.length_set, Array.toList_setIfInBounds, List.take_set, ht]
  · intro cs hcs
    rcases List.mem_or_eq_of_mem_set hcs with h | h
    · exact h3 cs h
    · rw [h, List.length_set]; exact h3 _ (List.getElem_mem hk2)
  · intro i h1 h2
    rw [List.length_set] at h1 h2
    rw [List.getElem_set, List.getElem_set]
    by_cases hi : k = i
    · subst hi
      rw [if_pos rfl, if_pos rfl]
      obtain ⟨dv, kv, hc, hd, hkk⟩ := hrep k hk hk2
      refine ⟨dv, kv, by rw [hc]; rfl, hd.agree ha, R.agree hkk ha⟩
    · rw [if_neg hi, if_neg hi]
      exact (hrep i h1 h2).agree ha
/-- A row of nodes of one's own is a block. -/
theorem Built.blk {α : Type} {R : Rk α} {V : Nat → Prop} {base : Nat} {e : TypeId} {w : World} {l : List (NodeOf α)} {v : Value} (h : Built R V base e w v l) (hl : 0 < l.length) : ∃ g c cur, v = .slice (some ⟨g, 0, none⟩) l.length c ∧ base ≤ g ∧ Bk w g e cur ∧ l.length * 3 ≤ cur.size := by
  obtain ⟨css, hown, hlen, h3, hrep⟩ := h
  rcases hown.2 with ⟨rfl, h0⟩ | ⟨g, cap, cur, rfl, hb, hg, hnc, hcm, hcs, ht⟩
  · omega
  · exact ⟨g, cap, cur, rfl, hb, hg, by omega⟩

/-- The seven values in front of a message's values. -/
def headM (m : Msg) : List Val := [⟨2, m.pub, ⟨#[]⟩, 0, 0, 0⟩, ⟨2, m.ttl, ⟨#[]⟩, 0, 0, 0⟩, ⟨5, 0, ⟨#[]⟩, m.sec, m.frac, m.qual⟩, ⟨2, m.state, ⟨#[]⟩, 0, 0, 0⟩, ⟨2, m.seq, ⟨#[]⟩, 0, 0, 0⟩, tru m.test, ⟨2, m.rev, ⟨#[]⟩, 0, 0, 0⟩]
/-- The eight nodes of a message, the message as a node. -/
def kidsM (m : Msg) : List (Nd 2) := reTag (α := Nd 1) 7 ((headM m).map (nodeV 1)) ++ [((167, [], m.vals.map (nodeV 0)) : NodeOf (Nd 1))]
def nodeM (m : Msg) : Nd 3 := ((97, [], kidsM m) : NodeOf (Nd 2))
def encMB (m : Msg) : List Int := if chkM m = 0 then encOut 3 [nodeM m] else []
def encME (m : Msg) : Int := if chkM m = 0 then encErr 3 [nodeM m] else chkM m
theorem chkM_zero (m : Msg) (h : chkM m = 0) : numOk m ∧ stErr m.sec m.frac m.qual = 0 ∧ m.vals.length ≤ 24 ∧ vErr m.vals = 0 := by
  by_cases hn : numOk m
  · rw [chkM_yes m hn] at h
    split at h
    · rename_i h1; exact absurd h h1
    · rename_i h1
      split at h
      · omega
      · exact ⟨hn, by omega, by omega, h⟩
  · rw [chkM_no m hn] at h; omega
theorem chk_tru (b : Bool) : chk (tru b) = 0 := by
  unfold chk tru noS noT
  cases b <;> simp [ByteArray.toList_eq]
theorem chk_int (n : Int) : chk ⟨2, n, ⟨#[]⟩, 0, 0, 0⟩ = 0 := by
  unfold chk noS noT
  simp [ByteArray.toList_eq]
theorem vErr_head (m : Msg) (h : stErr m.sec m.frac m.qual = 0) : vErr (headM m) = 0 := by
  simp only [headM, vErr, chk_int, chk_tru, chk_time, h, if_true]
theorem cnt_reTag {α : Type} (ck : List α → Nat) (k : Nat) (l : List (NodeOf α)) : cntS ck (reTag k l) = cntS ck l := by
  unfold cntS
  rw [reTag_len]
  congr 2
  apply List.ext_getElem (by simp [reTag])
  intro i h1 h2
  simp only [reTag, List.getElem_map, List.getElem_mapIdx]
  split <;> rfl
theorem cnt_append {α : Type} (ck : List α → Nat) (a b : List (NodeOf α)) : cntS ck (a ++ b) = cntS ck a + cntS ck b := by
  simp only [cntS, List.length_append, List.map_append, List.sum_append]; omega
theorem cnt_msg (m : Msg) (h : chkM m = 0) : cntN 3 [nodeM m] ≤ 1000000 := by
  obtain ⟨_, h1, h2, h3⟩ := chkM_zero m h
  have e0 : cntN 3 [nodeM m] = 1 + cntN 2 (kidsM m) := by
    show cntS (cntN 2) [nodeM m] = _
    simp [cntS, nodeM]
  have e1 : cntN 2 (kidsM m) = cntS (cntN 1) (kidsM m) := rfl
  have e2 := cnt_vals 1 (headM m) (vErr_head m h1)
  have e3 := cnt_vals 0 m.vals h3
  have e4 : cntS (cntN 1) [((167, [], m.vals.map (nodeV 0)) : NodeOf (Nd 1))] = 1 + cntN 1 (m.vals.map (nodeV 0)) := by simp [cntS]
  have e5 : cntN 1 (m.vals.map (nodeV 0)) = cntS (cntN 0) (m.vals.map (nodeV 0)) := rfl
  have e6 : (headM m).length = 7 := rfl
  rw [e0, e1, kidsM, cnt_append, cnt_reTag, e4, e5]
  omega
end Go.Proofs.Ytjaofbfppnmdjaa
