/- Values out of nodes, and the laws of decoding what was encoded: layer 11, plain. -/
import Derived.Test.YtjaofbfppnmdjaaDecV
import Derived.Test.YtjaofbfppnmdjaaDatD
import Derived.Test.YtjaofbfppnmdjaaTlvP
namespace Go.Proofs.Ytjaofbfppnmdjaa
open Go.RowKit

/-! ### Nodes at one depth more -/
def liftS {α β : Type} (f : α → β) (x : NodeOf α) : NodeOf β := (x.1, x.2.1, x.2.2.map f)
theorem chkS_lift {α β : Type} (f : α → β) (ea : List α → Int → Int) (eb : List β → Int → Int) (h : ∀ l d, eb (l.map f) d = ea l d) (l : List (NodeOf α)) (d : Int) : chkS eb (l.map (liftS f)) d = chkS ea l d := by
  unfold chkS
  rw [List.map_map]
  congr 1
  apply List.map_congr_left
  intro x _
  simp only [Function.comp, liftS, errS, List.length_map, h]
theorem szS_lift {α β : Type} (f : α → β) (za : List α → Nat) (zb : List β → Nat) (h : ∀ l, zb (l.map f) = za l) (l : List (NodeOf α)) : szS zb (l.map (liftS f)) = szS za l := by
  unfold szS
  rw [List.map_map]
  congr 1
  apply List.map_congr_left
  intro x _
  simp only [Function.comp, liftS, szE, h]
theorem encS_lift {α β : Type} (f : α → β) (ea : List α → List Int) (eb : List β → List Int) (h : ∀ l, eb (l.map f) = ea l) (l : List (NodeOf α)) : encS eb (l.map (liftS f)) = encS ea l := by
  unfold encS
  rw [List.flatMap_map]
  congr 1
  funext x
  simp only [liftS, encE, h]
def lift : (n : Nat) → Nd n → Nd (n + 1)
  | 0, x => nomatch (x : Empty)
  | n + 1, x => liftS (lift n) x
theorem chk_lift : ∀ (n : Nat) (l : List (Nd n)) (d : Int), chkN (n + 1) (l.map (lift n)) d = chkN n l d
  | 0, l, d => by rw [nd_zero l]; rfl
  | n + 1, l, d => chkS_lift (lift n) (chkN n) (chkN (n + 1)) (chk_lift n) l d
theorem sz_lift : ∀ (n : Nat) (l : List (Nd n)), szN (n + 1) (l.map (lift n)) = szN n l
  | 0, l => by rw [nd_zero l]; rfl
  | n + 1, l => szS_lift (lift n) (szN n) (szN (n + 1)) (sz_lift n) l
theorem enc_lift : ∀ (n : Nat) (l : List (Nd n)), encN (n + 1) (l.map (lift n)) = encN n l
  | 0, l => by rw [nd_zero l]; rfl
  | n + 1, l => encS_lift (lift n) (encN n) (encN (n + 1)) (enc_lift n) l
theorem out_lift (n : Nat) (l : List (Nd n)) : encOut (n + 1) (l.map (lift n)) = encOut n l ∧ encErr (n + 1) (l.map (lift n)) = encErr n l := by
  unfold encOut encErr
  rw [chk_lift, sz_lift, enc_lift]
  exact ⟨rfl, rfl⟩
theorem lift_nodeV (k : Nat) (l : List Val) : (l.map (nodeV k)).map (lift (k + 1)) = l.map (nodeV (k + 1)) := by
  induction l with
  | nil => rfl
  | cons x l ih => exact congrArg (List.cons (nodeV (k + 1) x)) ih
theorem out_vals : ∀ (k : Nat) (l : List Val), encOut (k + 1) (l.map (nodeV k)) = encOut 1 (l.map (nodeV 0)) ∧ encErr (k + 1) (l.map (nodeV k)) = encErr 1 (l.map (nodeV 0))
  | 0, l => ⟨rfl, rfl⟩
  | k + 1, l => by
    have ih := out_vals k l
    have h := out_lift (k + 1) (l.map (nodeV k))
    have e : List.map (lift (k + 1)) (List.map (nodeV k) l) = l.map (nodeV (k + 1)) := lift_nodeV k l
    rw [e] at h
    exact ⟨h.1.trans ih.1, h.2.trans ih.2⟩

/-! ### Values out of nodes -/
/-- The error of one node. -/
noncomputable def errV {α : Type} (x : NodeOf α) : Int := if kindT x.1 = 0 ∨ 0 < x.2.2.length then 15 else if readV x.1 x.2.1 = none then 16 else 0
noncomputable def valsE {α : Type} (l : List (NodeOf α)) : Int := fstErr (l.map errV)
noncomputable def valsOf {α : Type} (l : List (NodeOf α)) : List Val := l.filterMap fun x => readV x.1 x.2.1
/-- What Values gives. -/
noncomputable def valsV {α : Type} (l : List (NodeOf α)) : List Val := if valsE l = 0 then valsOf l else []
theorem errV_zero {α : Type} {x : NodeOf α} (h : errV x = 0) : x.2.2 = [] ∧ ∃ v, readV x.1 x.2.1 = some v := by
  unfold errV at h
  split at h
  · omega
  · rename_i h1
    split at h
    · omega
    · rename_i h2
      refine ⟨List.eq_nil_of_length_eq_zero (by omega), ?_⟩
      cases hr : readV x.1 x.2.1 with
      | none => exact absurd hr h2
      | some v => exact ⟨v, rfl⟩
theorem tag_kind (v : Val) (h : isKind v = true) : kindT (tagV v) = v.kind := by
  simp only [isKind, Bool.and_eq_true, decide_eq_true_eq] at h
  unfold tagV
  obtain h1 | h1 | h1 | h1 | h1 : v.kind = 1 ∨ v.kind = 2 ∨ v.kind = 3 ∨ v.kind = 4 ∨ v.kind = 5 := by omega
  all_goals rw [h1]; rfl
/-- A number that Go can hold. -/
def inN (v : Val) : Prop := -9223372036854775808 ≤ v.n ∧ v.n ≤ 9223372036854775807
theorem vals_back (k : Nat) : ∀ (l : List Val), vErr l = 0 → (∀ v ∈ l, inN v) → valsE (l.map (nodeV k)) = 0 ∧ valsOf (l.map (nodeV k)) = l
  | [], _, _ => ⟨rfl, rfl⟩
  | v :: l, h, hn => by
    have hc := vErr_zero _ h v (by simp)
    have h2 : vErr l = 0 := by simp only [vErr, hc, if_true] at h; exact h
    have ih := vals_back k l h2 (fun x hx => hn x (by simp [hx]))
    have hr := readV_back v hc (hn v (by simp))
    have hk := chk_kind hc
    have he : errV (nodeV k v) = 0 := by
      unfold errV nodeV
      simp only [hr]
      rw [if_neg, if_neg (by simp)]
      rw [tag_kind v hk]
      simp only [isKind, Bool.and_eq_true, decide_eq_true_eq] at hk
      simp only [List.length_nil]
      omega
    constructor
    · unfold valsE at ih ⊢
      rw [List.map_cons, List.map_cons, he]
      exact ih.1
    · have e : valsOf (nodeV k v :: l.map (nodeV k)) = v :: valsOf (l.map (nodeV k)) := List.filterMap_cons_some (f := fun x : NodeOf (Nd k) => readV x.1 x.2.1) hr
      rw [List.map_cons, e, ih.2]
theorem vals_canon (k : Nat) : ∀ (l : List (NodeOf (Nd k))), (∀ x ∈ l, Byt x.2.1) → valsE l = 0 → vErr (valsOf l) = 0 ∧ (valsOf l).map (nodeV k) = l ∧ ∀ v ∈ valsOf l, inN v
  | [], _, _ => ⟨rfl, rfl, fun v h => by cases h⟩
  | x :: l, hb, h => by
    have h0 : errV x = 0 ∧ valsE l = 0 := by
      unfold valsE at h ⊢
      simp only [List.map_cons, fstErr] at h
      split at h
      · rename_i h1; exact ⟨h1, h⟩
      · rename_i h1; exact absurd h h1
    obtain ⟨ih1, ih2, ih3⟩ := vals_canon k l (fun y hy => hb y (by simp [hy])) h0.2
    obtain ⟨hk, v, hr⟩ := errV_zero h0.1
    obtain ⟨c1, c2, c3, c4, c5, _⟩ := readV_canon _ _ (hb x (by simp)) v hr
    have e : valsOf (x :: l) = v :: valsOf l := List.filterMap_cons_some (f := fun x : NodeOf (Nd k) => readV x.1 x.2.1) hr
    rw [e]
    refine ⟨?_, ?_, ?_⟩
    · simp only [vErr]
      rw [if_pos c1]
      exact ih1
    · rw [List.map_cons, ih2]
      congr 1
      unfold nodeV
      rw [c2, c3, ← hk]
    · intro y hy
      cases hy with
      | head => exact ⟨c4, c5⟩
      | tail _ hy => exact ih3 y hy
theorem valsV_len {α : Type} (l : List (NodeOf α)) (h : valsE l = 0) : (valsOf l).length = l.length := by
  unfold valsE at h
  have h2 := fstErr_zero errV l h
  clear h
  induction l with
  | nil => rfl
  | cons x l ih =>
    obtain ⟨_, v, hr⟩ := errV_zero (h2 x (by simp))
    have e : valsOf (x :: l) = v :: valsOf l := List.filterMap_cons_some (f := fun x : NodeOf α => readV x.1 x.2.1) hr
    rw [e, List.length_cons, List.length_cons, ih (fun y hy => h2 y (by simp [hy]))]

/-! ### Decode -/
/-- What Decode of values gives. -/
noncomputable def decDV (bs : List Int) : List Val := if (decTop 7 bs).2 = 0 then valsV (decTop 7 bs).1 else []
noncomputable def decDE (bs : List Int) : Int := if (decTop 7 bs).2 = 0 then valsE (decTop 7 bs).1 else (decTop 7 bs).2
theorem round11 (l : List Val) (h : encDE l = 0) (hn : ∀ v ∈ l, inN v) : decDE (encDB l) = 0 ∧ decDV (encDB l) = l := by
  have hv : vErr l = 0 := by
    unfold encDE at h
    by_cases h0 : vErr l = 0
    · exact h0
    · rw [if_neg h0] at h; exact h
  have he : encErr 1 (l.map (nodeV 0)) = 0 := by unfold encDE at h; rw [if_pos hv] at h; exact h
  have hb : encDB l = encOut 7 (l.map (nodeV 6)) := by unfold encDB; rw [if_pos hv]; exact (out_vals 6 l).1.symm
  have hr := (round_trip 7 (l.map (nodeV 6)) ((out_vals 6 l).2.trans he)).1
  rw [← hb] at hr
  have hk := vals_back 6 l hv hn
  unfold decDE decDV valsV
  rw [hr]
  exact ⟨hk.1, (if_pos rfl).trans ((if_pos hk.1).trans hk.2)⟩
/-- All data are bytes, at any depth. -/
def bytN : (n : Nat) → List (Nd n) → Prop
  | 0, _ => True
  | n + 1, l => ∀ x ∈ l, Byt (x : NodeOf (Nd n)).2.1 ∧ bytN n (x : NodeOf (Nd n)).2.2
theorem byt_decF (n : Nat) (d : Int) (kid : List Int → List (Nd n) × Int) (hk : ∀ b, Byt b → bytN n (kid b).1) : ∀ (f : Nat) (b : List Int), Byt b → bytN (n + 1) (decF d kid f b).1
  | 0, b, _ => fun x hx => by cases hx
  | f + 1, b, hb => by
    have ih := byt_decF n d kid hk f (b.drop ((hd b d).2.1 + (hd b d).2.2.1)) (hb.drop _)
    have h1 := hk ((b.drop (hd b d).2.1).take (hd b d).2.2.1) ((hb.drop _).take _)
    unfold decF
    split
    · exact fun x hx => by cases hx
    split
    · exact fun x hx => by cases hx
    split
    · exact fun x hx => by cases hx
    split
    · exact fun x hx => by cases hx
    intro x hx
    cases hx with
    | head =>
      split
      · exact ⟨Byt.nil, h1⟩
      · exact ⟨(hb.drop _).take _, by cases n with
          | zero => trivial
          | succ n => exact fun y hy => by cases hy⟩
    | tail _ hx => exact ih x hx
theorem byt_decN : ∀ (n : Nat) (d : Int) (b : List Int), Byt b → bytN n (decN n d b).1
  | 0, _, _, _ => trivial
  | n + 1, d, b, hb => byt_decF n d (decN n (d + 1)) (fun b' hb' => byt_decN n (d + 1) b' hb') b.length b hb
theorem byt_decTop (n : Nat) (b : List Int) (hb : Byt b) : bytN n (decTop n b).1 := by
  unfold decTop
  split
  · cases n with
    | zero => trivial
    | succ n => exact fun x hx => by cases hx
  · exact byt_decN n 0 b hb
theorem canon11 (bs : List Int) (hb : Byt bs) (h : decDE bs = 0) : encDE (decDV bs) = 0 ∧ encDB (decDV bs) = bs ∧ ∀ v ∈ decDV bs, inN v := by
  have h0 : (decTop 7 bs).2 = 0 := by
    unfold decDE at h
    by_cases h0 : (decTop 7 bs).2 = 0
    · exact h0
    · rw [if_neg h0] at h; exact h
  have hv : valsE (decTop 7 bs).1 = 0 := by unfold decDE at h; rw [if_pos h0] at h; exact h
  obtain ⟨c1, c2, c3⟩ := vals_canon 6 (decTop 7 bs).1 (fun x hx => (byt_decTop 7 bs hb x hx).1) hv
  have hc := canonical 7 bs (by omega) hb h0
  have e : decDV bs = valsOf (decTop 7 bs).1 := by
    unfold decDV valsV
    rw [if_pos h0, if_pos hv]
  have o := out_vals 6 (decDV bs)
  have e2 : (decDV bs).map (nodeV 6) = (decTop 7 bs).1 := by rw [e]; exact c2
  have o1 : encOut 1 ((decDV bs).map (nodeV 0)) = bs := o.1.symm.trans ((congrArg (encOut 7) e2).trans hc.2)
  have o2 : encErr 1 ((decDV bs).map (nodeV 0)) = 0 := o.2.symm.trans ((congrArg (encErr 7) e2).trans hc.1)
  have hve : vErr (decDV bs) = 0 := by rw [e]; exact c1
  unfold encDE encDB
  rw [if_pos hve, if_pos hve]
  exact ⟨o2, o1, by rw [e]; exact c3⟩
theorem decDV_bad (bs : List Int) (h : decDE bs ≠ 0) : decDV bs = [] := by
  unfold decDE at h
  unfold decDV valsV
  by_cases h0 : (decTop 7 bs).2 = 0
  · rw [if_pos h0] at h ⊢
    rw [if_neg h]
  · rw [if_neg h0]
end Go.Proofs.Ytjaofbfppnmdjaa
