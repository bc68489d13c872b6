/- Two messages with the same bytes are alike: the plain law of MessageFields. -/
import Derived.Test.YtjaofbfppnmdjaaMsgP
import Derived.Test.YtjaofbfppnmdjaaTlvP
import Derived.Test.YtjaofbfppnmdjaaDecPP
namespace Go.Proofs.Ytjaofbfppnmdjaa
open Go.RowKit

theorem errS_prim {α : Type} (ek : List α → Int → Int) (d t : Int) (D : List Int) (ht : tagB t = true) (hn : nestB t = false) (hd : d ≤ 6) (hk : ek [] (d + 1) = 0) : errS ek d (t, D, []) = 0 := by
  unfold errS
  simp only [ht, hn]
  rw [if_neg (by simp), if_neg (by omega), if_neg (by simp)]
  exact hk
theorem tag_val (v : Val) : tagB (tagV v) = true ∧ nestB (tagV v) = false := by
  unfold tagV
  split
  · decide +kernel
  split
  · decide +kernel
  split
  · decide +kernel
  split
  · decide +kernel
  · decide +kernel
theorem chk_vals (k : Nat) (l : List Val) (d : Int) (hd : d ≤ 6) : chkN (k + 1) (l.map (nodeV k)) d = 0 := by
  show chkS (chkN k) (l.map (nodeV k)) d = 0
  unfold chkS
  refine fstErr_of_zero _ _ fun x hx => ?_
  obtain ⟨v, _, rfl⟩ := List.mem_map.1 hx
  exact errS_prim _ _ _ _ (tag_val v).1 (tag_val v).2 hd (chkN_nil k _)
theorem tag_head : ∀ i : Fin 7, tagB (128 + (i.1 : Int)) = true ∧ nestB (128 + (i.1 : Int)) = false := by decide +kernel
theorem chk_msg (m : Msg) : chkN 3 [nodeM m] 0 = 0 := by
  have hk : chkN 2 (kidsM m) 1 = 0 := by
    show chkS (chkN 1) (kidsM m) 1 = 0
    unfold chkS
    refine fstErr_of_zero _ _ fun x hx => ?_
    unfold kidsM at hx
    rcases List.mem_append.1 hx with hx | hx
    · obtain ⟨i, hi, rfl⟩ := List.getElem_of_mem hx
      have hi7 : i < 7 := by rw [reTag_len, List.length_map] at hi; exact hi
      have e : (reTag (α := Nd 1) 7 ((headM m).map (nodeV 1)))[i] = (128 + (i : Int), (((headM m).map (nodeV 1))[i]'(by rw [List.length_map]; exact hi7)).2) := by
        simp only [reTag, List.getElem_mapIdx, if_pos hi7]
      have key : errS (chkN 1) 1 ((reTag (α := Nd 1) 7 ((headM m).map (nodeV 1)))[i]) = 0 := by
        rw [e, List.getElem_map]
        have := tag_head ⟨i, hi7⟩
        exact errS_prim _ _ _ _ this.1 this.2 (by omega) (chkN_nil 1 _)
      exact key
    · simp only [List.mem_singleton] at hx
      subst hx
      have h1 : tagB 167 = true := by decide +kernel
      have h2 : nestB 167 = true := by decide +kernel
      unfold errS
      simp only [h1, h2]
      rw [if_neg (by simp), if_neg (by omega), if_neg (by simp)]
      exact chk_vals 0 m.vals 2 (by omega)
  show chkS (chkN 2) [nodeM m] 0 = 0
  have h1 : tagB 97 = true := by decide +kernel
  have h2 : nestB 97 = true := by decide +kernel
  have he : errS (chkN 2) 0 (nodeM m) = 0 := by
    unfold errS nodeM
    simp only [h1, h2]
    rw [if_neg (by simp), if_neg (by omega), if_neg (by simp)]
    exact hk
  have hf : fstErr [errS (chkN 2) 0 (nodeM m)] = 0 := by rw [he]; rfl
  exact hf
theorem encME_ways (m : Msg) (h : chkM m = 0) : encME m = 0 ∨ encME m = 4 := by
  unfold encME
  rw [if_pos h]
  unfold encErr
  rw [if_pos (chk_msg m)]
  split
  · exact .inl rfl
  · exact .inr rfl
theorem encMB_some (m : Msg) (h : chkM m = 0) (he : encME m = 0) : encMB m = encN 3 [nodeM m] ∧ szN 3 [nodeM m] ≤ 1500 := by
  unfold encME at he
  rw [if_pos h] at he
  obtain ⟨_, h2, h3, _⟩ := encErr_zero he
  unfold encMB
  rw [if_pos h, h3]
  exact ⟨rfl, h2⟩
theorem encMB_byt (m : Msg) : Byt (encMB m) ∨ True := .inr trivial
theorem datV_inj (v v' : Val) (hk : v.kind = v'.kind) (h : chk v = 0) (h' : chk v' = 0) (hn : -9223372036854775808 ≤ v.n ∧ v.n ≤ 9223372036854775807) (hn' : -9223372036854775808 ≤ v'.n ∧ v'.n ≤ 9223372036854775807) (hd : datV v = datV v') : v = v' := by
  have e1 := readV_back v h hn
  have e2 := readV_back v' h' hn'
  have ht : tagV v = tagV v' := by unfold tagV; rw [hk]
  rw [ht, hd, e2] at e1
  injection e1 with e1
  exact e1.symm
theorem int_inj (n n' : Int) (h : -9223372036854775808 ≤ n ∧ n ≤ 9223372036854775807) (h' : -9223372036854775808 ≤ n' ∧ n' ≤ 9223372036854775807) (hd : datV ⟨2, n, ⟨#[]⟩, 0, 0, 0⟩ = datV ⟨2, n', ⟨#[]⟩, 0, 0, 0⟩) : n = n' := by
  have := datV_inj ⟨2, n, ⟨#[]⟩, 0, 0, 0⟩ ⟨2, n', ⟨#[]⟩, 0, 0, 0⟩ rfl (chk_int n) (chk_int n') h h' hd
  simp only [Val.mk.injEq] at this
  exact this.2.1
/-- The numbers in front are told by the bytes. -/
theorem encM_inj (m x : Msg) (hm : chkM m = 0) (hx : chkM x = 0) (em : encME m = 0) (ex : encME x = 0) (h : encMB m = encMB x) : m.pub = x.pub ∧ m.ttl = x.ttl ∧ m.state = x.state ∧ m.seq = x.seq ∧ m.test = x.test ∧ m.rev = x.rev := by
  obtain ⟨e1, s1⟩ := encMB_some m hm em
  obtain ⟨e2, s2⟩ := encMB_some x hx ex
  have d1 := dec_encN 3 0 [nodeM m] (chk_msg m) (by omega)
  have d2 := dec_encN 3 0 [nodeM x] (chk_msg x) (by omega)
  rw [← e1, h, e2, d2] at d1
  simp only [Prod.mk.injEq, List.cons.injEq, and_true] at d1
  have hk : kidsM x = kidsM m := by
    have : (nodeM x).2.2 = (nodeM m).2.2 := by rw [d1]
    exact this
  unfold kidsM at hk
  have hl := (List.append_inj hk (by rw [reTag_len, reTag_len]; rfl)).1
  have key : ∀ (i : Nat) (u v : Val), i < 7 → (headM x)[i]? = some u → (headM m)[i]? = some v → datV v = datV u := by
    intro i u v hi hu hv
    have e1 := reTag_get' 7 ((headM x).map (nodeV 1)) i hi (nodeV 1 u) (by rw [List.getElem?_map, hu]; rfl)
    have e2 := reTag_get' 7 ((headM m).map (nodeV 1)) i hi (nodeV 1 v) (by rw [List.getElem?_map, hv]; rfl)
    rw [hl, e2] at e1
    simp only [Option.some.injEq, Prod.mk.injEq, true_and] at e1
    have := congrArg Prod.fst e1
    exact this
  obtain ⟨nm, _⟩ := chkM_zero m hm
  obtain ⟨nx, _⟩ := chkM_zero x hx
  unfold numOk at nm nx
  refine ⟨int_inj _ _ (by omega) (by omega) (key 0 _ _ (by omega) rfl rfl), int_inj _ _ (by omega) (by omega) (key 1 _ _ (by omega) rfl rfl), int_inj _ _ (by omega) (by omega) (key 3 _ _ (by omega) rfl rfl), int_inj _ _ (by omega) (by omega) (key 4 _ _ (by omega) rfl rfl), ?_, int_inj _ _ (by omega) (by omega) (key 6 _ _ (by omega) rfl rfl)⟩
  have ht := key 5 _ _ (by omega) rfl rfl
  have ht2 : m.test = x.test := by
    cases h1 : m.test <;> cases h2 : x.test
    · rfl
    · rw [h1, h2] at ht; revert ht; decide +kernel
    · rw [h1, h2] at ht; revert ht; decide +kernel
    · rfl
  exact ht2
end Go.Proofs.Ytjaofbfppnmdjaa

namespace Go.Proofs.Ytjaofbfppnmdjaa
open Go.RowKit

/-- The nodes of a message, at a greater depth. -/
def kidsK (k : Nat) (m : Msg) : List (NodeOf (Nd (k + 1))) := reTag (α := Nd (k + 1)) 7 ((headM m).map (nodeV (k + 1))) ++ [((167, [], m.vals.map (nodeV k)) : NodeOf (Nd (k + 1)))]
def nodeK (k : Nat) (m : Msg) : NodeOf (Nd (k + 2)) := (97, [], kidsK k m)
theorem kidsK_len (k : Nat) (m : Msg) : (kidsK k m).length = 8 := by
  unfold kidsK
  rw [List.length_append, reTag_len, List.length_map]
  rfl
theorem kidsK_head (k : Nat) (m : Msg) (i : Nat) (hi : i < 7) (v : Val) (hv : (headM m)[i]? = some v) : (kidsK k m)[i]? = some ((128 + (i : Int), datV v, []) : NodeOf (Nd (k + 1))) := by
  unfold kidsK
  rw [List.getElem?_append_left (by rw [reTag_len, List.length_map]; exact hi), reTag_get' 7 _ i hi (nodeV (k + 1) v) (by rw [List.getElem?_map, hv]; rfl)]
  rfl
theorem kidsK_last (k : Nat) (m : Msg) : (kidsK k m)[7]? = some ((167, [], m.vals.map (nodeV k)) : NodeOf (Nd (k + 1))) := by
  unfold kidsK
  rw [List.getElem?_append_right (by rw [reTag_len, List.length_map]; exact Nat.le_refl _), reTag_len, List.length_map]
  rfl
theorem reTag_lift {α β : Type} (f : α → β) (k : Nat) (l : List (NodeOf α)) : (reTag k l).map (liftS f) = reTag k (l.map (liftS f)) := by
  apply List.ext_getElem (by simp [reTag])
  intro i h1 h2
  simp only [reTag, List.getElem_map, List.getElem_mapIdx]
  split <;> rfl
theorem nodeV_lift (k : Nat) (l : List Val) : (l.map (nodeV k)).map (liftS (lift k)) = l.map (nodeV (k + 1)) := by
  rw [List.map_map]
  rfl
theorem kids_lift (k : Nat) (m : Msg) : (kidsK k m).map (liftS (lift (k + 1))) = kidsK (k + 1) m := by
  unfold kidsK
  rw [List.map_append, reTag_lift]
  have e1 : ((headM m).map (nodeV (k + 1))).map (liftS (lift (k + 1))) = (headM m).map (nodeV (k + 1 + 1)) := nodeV_lift (k + 1) (headM m)
  have e2 : (m.vals.map (nodeV k)).map (lift (k + 1)) = m.vals.map (nodeV (k + 1)) := lift_nodeV k m.vals
  rw [e1]
  congr 1
  show [(((167, [], (m.vals.map (nodeV k)).map (lift (k + 1))) : NodeOf (Nd (k + 2))))] = _
  exact congrArg (fun x => [((167, [], x) : NodeOf (Nd (k + 2)))]) e2
theorem node_lift (k : Nat) (m : Msg) : lift (k + 3) (nodeK k m) = nodeK (k + 1) m := by
  show (((97, [], (kidsK k m).map (lift (k + 2))) : NodeOf (Nd (k + 3)))) = _
  exact congrArg (fun x => ((97, [], x) : NodeOf (Nd (k + 3)))) (kids_lift k m)
theorem out_node (m : Msg) : ∀ k : Nat, encOut (k + 3) [nodeK k m] = encOut 3 [nodeM m] ∧ encErr (k + 3) [nodeK k m] = encErr 3 [nodeM m]
  | 0 => ⟨rfl, rfl⟩
  | k + 1 => by
    have ih := out_node m k
    have h := out_lift (k + 3) [nodeK k m]
    have e : List.map (lift (k + 3)) [nodeK k m] = [nodeK (k + 1) m] := congrArg (fun x => [x]) (node_lift k m)
    rw [e] at h
    exact ⟨h.1.trans ih.1, h.2.trans ih.2⟩
theorem msg_dec (m : Msg) (hc : chkM m = 0) (h : encME m = 0) : decTop 7 (encMB m) = ([nodeK 4 m], 0) := by
  have he : encErr 3 [nodeM m] = 0 := by unfold encME at h; rw [if_pos hc] at h; exact h
  have hb : encMB m = encOut 7 [nodeK 4 m] := by
    unfold encMB
    rw [if_pos hc]
    exact (out_node m 4).1.symm
  rw [hb]
  exact (round_trip 7 [nodeK 4 m] ((out_node m 4).2.trans he)).1
theorem encMB_bad (m : Msg) (h : encME m ≠ 0) : encMB m = [] := by
  unfold encME at h
  unfold encMB
  by_cases hc : chkM m = 0
  · rw [if_pos hc] at h ⊢
    exact encOut_bad h
  · rw [if_neg hc]
theorem encME_chk (m : Msg) (h : encME m = 0) : chkM m = 0 := by
  unfold encME at h
  by_cases hc : chkM m = 0
  · exact hc
  · rw [if_neg hc] at h
    exact h
end Go.Proofs.Ytjaofbfppnmdjaa
