/- A law for a statement that draws its order, reads first, then makes one call, then takes the results apart and stores them: it may be walked in the order of the text. Nothing of the program stands here. -/
import Derived.StillTail
import Derived.StillTailTactics
import Derived.OrdersHeld
import Derived.Deep.RegionHeld3
namespace Go.Proofs.Ytjaofbfppnmdjaa
section
variable {P : Program} {ops : Array Oper} {Q : Exit → Act → World → Prop} {md : Region.Mode}

/-- Whatever order is picked; until number n has come up the world stays W. -/
def wpAnyC (P : Program) (md : Region.Mode) (ops : Array Oper) (Q : Exit → Act → World → Prop) (W : World) (n : Nat) : Nat → Array Bool → Act → World → Prop
  | 0, listed, a, w => Region.ready md ops listed = [] ∧ Q .normal a w
  | fuel + 1, listed, a, w =>
    (Region.ready md ops listed = [] → Q .normal a w) ∧
    ∀ i ∈ Region.ready md ops listed, wpOp P ops Q i (fun a' w' => ((listed.setIfInBounds i true).getD n true = false → w' = W) ∧ wpAnyC P md ops Q W n fuel (listed.setIfInBounds i true) a' w') a w
theorem wpAny_of_C {W : World} {n : Nat} : ∀ (fuel : Nat) (listed : Array Bool) (a : Act) (w : World), wpAnyC P md ops Q W n fuel listed a w → wpAny P md ops Q fuel listed a w
  | 0, _, _, _, h => h
  | fuel + 1, _, _, _, h => ⟨h.1, fun i hi => wpOp_mono (fun a' w' h' => wpAny_of_C fuel _ a' w' h'.2) (h.2 i hi)⟩
theorem getD_set_in {listed : Array Bool} {i n : Nat} (h : listed.getD n false = true) : (listed.setIfInBounds i true).getD n true ≠ false := by
  have h1 := getD_set_true (i := i) h
  have hlt : n < (listed.setIfInBounds i true).size := by
    rcases Nat.lt_or_ge n (listed.setIfInBounds i true).size with h' | h'
    · exact h'
    · simp [Array.getElem?_eq_none h'] at h1
  simp only [Array.getD, hlt, dite_true] at h1 ⊢
  rw [h1]
  simp
theorem wpAnyC_of_any {W : World} {n : Nat} : ∀ (fuel : Nat) (listed : Array Bool) (a : Act) (w : World), listed.getD n false = true → wpAny P md ops Q fuel listed a w → wpAnyC P md ops Q W n fuel listed a w
  | 0, _, _, _, _, h => h
  | fuel + 1, _, _, _, hn, h => ⟨h.1, fun i hi => wpOp_mono (fun a' w' h' => ⟨fun h0 => absurd h0 (getD_set_in hn), wpAnyC_of_any fuel _ a' w' (getD_set_true hn) h'⟩) (h.2 i hi)⟩

/-- What has come up waits for nothing that has not. -/
structure Closed (md : Region.Mode) (ops : Array Oper) (listed : Array Bool) : Prop where
  size : listed.size = ops.size
  closed : ∀ j oj, ops[j]? = some oj → listed.getD j false = true → ∀ e ∈ oj.after, Region.binds md e = true → listed.getD e.on false = true
theorem Closed.start (md : Region.Mode) (ops : Array Oper) : Closed md ops (Array.replicate ops.size false) :=
  ⟨by simp, fun j oj _ h => by rw [getD_replicate_false] at h; cases h⟩
theorem Closed.set {listed : Array Bool} {i : Nat} (h : Closed md ops listed) (hi : i ∈ Region.ready md ops listed) : Closed md ops (listed.setIfInBounds i true) := by
  obtain ⟨_, oi, hoi, hall⟩ := mem_ready.1 hi
  refine ⟨by simp [h.size], fun j oj hj hl e he hb => ?_⟩
  by_cases hij : i = j
  · subst hij
    obtain rfl : oj = oi := Option.some.inj (hj.symm.trans hoi)
    exact getD_set_true (hall e he hb)
  · rw [getD_set_ne false hij] at hl
    exact getD_set_true (h.closed j oj hj hl e he hb)
theorem head_listed {n : Nat} {listed : Array Bool} (hs : Region.sinkB md ops n = true) (h : Closed md ops listed) (hn : listed.getD n false = true) : ∀ (d i : Nat), n - i = d → i < n → listed.getD i false = true := by
  intro d
  induction d using Nat.strongRecOn with
  | _ d ih =>
    intro i hd hi
    obtain ⟨j, hj, hj2⟩ := List.any_eq_true.1 (List.all_eq_true.1 hs i (List.mem_range.2 hi))
    simp only [Bool.and_eq_true, decide_eq_true_eq] at hj2
    obtain ⟨oj, hoj, e, he, hb, hon⟩ := Region.waitsFor_spec hj2.2
    have hjn : j ≤ n := by have := List.mem_range.1 hj; omega
    have hjl : listed.getD j false = true := by
      rcases Nat.lt_or_eq_of_le hjn with h1 | h1
      · exact ih (n - j) (by omega) j rfl h1
      · rw [h1]; exact hn
    rw [← hon]
    exact h.closed j oj hoj hjl e he hb
theorem head_open {n i : Nat} {listed : Array Bool} (hs : Region.sinkB md ops n = true) (h : Closed md ops listed) (hn : n < ops.size) (hi : i < n) (hu : listed.getD i true = false) : listed.getD n true = false := by
  cases hc : listed.getD n false with
  | true =>
    have := head_listed hs h hc (n - i) i rfl hi
    rw [getD_both hu] at this
    cases this
  | false => exact getD_in (by rw [h.size]; exact hn) hc

/-- An operation that is apart from one that yields: whether that one's value is there already makes no difference to it. -/
theorem wpOp_swap {W : World} {j : Nat} {oi oj : Oper} {v : Value} (hj : ops[j]? = some oj) (hap : oi.apart ops oj = true) (hsel : Region.noSelect ops = true) {i : Nat} (hi : ops[i]? = some oi)
    (hQ : ∀ c a a' w, Q (.panic c) a w → Q (.panic c) a' w) {K : Act → World → Prop} {a : Act} {w : World}
    (hy : YieldsAt P ops W oi v a) (h : wpOp P ops Q j K (a.put oi.dst v) w) :
    wpOp P ops Q j (fun a' w' => YieldsAt P ops W oi v a' ∧ K (a'.put oi.dst v) w') a w := by
  obtain ⟨h1, h2, h3⟩ := Oper.apart_spec hap
  have hsi := fun cs b => Region.noSelect_spec hsel i oi cs b hi
  have hsj := fun cs b => Region.noSelect_spec hsel j oj cs b hj
  have keep : ∀ (a : Act), YieldsAt P ops W oi v a → ∀ u, YieldsAt P ops W oi v (a.put oj.dst u) := fun a hy u =>
    hy.of_same (execOp_put oi hsi a oj.dst u h3) (wanted_put oi a oj.dst u h3)
  have comm : ∀ (a : Act) u, (a.put oj.dst u).put oi.dst v = (a.put oi.dst v).put oj.dst u := fun a u => (Act.put_comm a v u h2).symm
  unfold wpOp at *
  simp only [hj] at *
  rw [wanted_put oj a oi.dst v h1] at h
  by_cases hw : Region.wanted oj (yielded ops a.tmps) = true
  · simp only [hw, if_true] at h ⊢
    rcases h with h | ⟨ha, hl⟩
    · refine .inl ?_
      unfold Oper.wp at *
      rw [execOp_put oj hsj a oi.dst v h1] at h
      generalize (execOp a.eval oj).run P w = r at *
      cases r with
      | ok n w' =>
        cases n <;> simp only [Oper.upon] at h ⊢
        case value u => exact ⟨keep a hy u, by rw [comm]; exact h⟩
        case skip => exact ⟨keep a hy _, by rw [comm]; exact h⟩
        case defer d =>
          refine ⟨keep { a with defers := d :: a.defers } (hy.of_same rfl rfl) _, ?_⟩
          rw [comm, ← Act.put_defers]
          exact h
        case enter f args =>
          refine Calls.mono h fun e w'' he => ?_
          cases e with
          | returned u => exact ⟨keep a hy u, by rw [comm]; exact he⟩
          | panicked c => exact hQ _ _ _ _ he
          | outgrown => exact he
        case row row args => exact Rows.mono h fun u w'' he => ⟨keep a hy u, by rw [comm]; exact he⟩
      | halt x w' =>
        cases x <;> simp only [Oper.upon] at h ⊢
        case panic u => exact hQ _ _ _ _ h
    · refine .inr ⟨?_, hl⟩
      unfold Oper.asks at *
      rw [execOp_put oj hsj a oi.dst v h1] at ha
      exact ha
  · simp only [hw] at h ⊢
    exact ⟨keep a hy _, by rw [comm]; exact h⟩
/-- A reader of the head may come first. -/
theorem wpAnyC_first {W : World} {n i : Nat} {oi : Oper} {v : Value} (hi : ops[i]? = some oi) (hsel : Region.noSelect ops = true) (hs : Region.sinkB md ops n = true) (hn : n < ops.size) (hin : i < n)
    (hQ : ∀ c a a' w, Q (.panic c) a w → Q (.panic c) a' w) :
    ∀ (fuel : Nat) (listed : Array Bool) (a : Act), Closed md ops listed →
      (∀ j oj, ops[j]? = some oj → j ≠ i → listed.getD j true = false → (∀ e ∈ oj.after, Region.binds md e = true → e.on ≠ i) → oi.apart ops oj = true) →
      i ∈ Region.ready md ops listed → YieldsAt P ops W oi v a →
      wpAnyC P md ops Q W n fuel (listed.setIfInBounds i true) (a.put oi.dst v) W → wpAnyC P md ops Q W n (fuel + 1) listed a W := by
  intro fuel
  induction fuel with
  | zero =>
    intro listed a _ _ hr hy H
    refine ⟨fun h => (by rw [h] at hr; cases hr), fun j hj => ?_⟩
    by_cases hji : j = i
    · subst hji
      exact wpOp_of_stOp (fun a' h' => h') (hy.stOp hi ⟨fun _ => rfl, H⟩)
    · have := ready_mono hj hji
      rw [H.1] at this
      cases this
  | succ fuel ih =>
    intro listed a hc hfree hr hy H
    refine ⟨fun h => (by rw [h] at hr; cases hr), fun j hj => ?_⟩
    by_cases hji : j = i
    · subst hji
      exact wpOp_of_stOp (fun a' h' => h') (hy.stOp hi ⟨fun _ => rfl, H⟩)
    · have h1 := H.2 j (ready_mono hj hji)
      obtain ⟨hjun, oj, hoj, hall⟩ := mem_ready.1 hj
      have hiun := (mem_ready.1 hr).1
      have hnot : ∀ e ∈ oj.after, Region.binds md e = true → e.on ≠ i := fun e he hb heq => by
        have h2 := hall e he hb
        rw [heq, getD_both hiun] at h2
        cases h2
      have h2 := wpOp_swap hoj (hfree j oj hoj hji hjun hnot) hsel hi hQ hy h1
      have hc' := hc.set hj
      have hiun' : (listed.setIfInBounds j true).getD i true = false := by rw [getD_set_ne true hji]; exact hiun
      have hfree' : ∀ k ok, ops[k]? = some ok → k ≠ i → (listed.setIfInBounds j true).getD k true = false →
          (∀ e ∈ ok.after, Region.binds md e = true → e.on ≠ i) → oi.apart ops ok = true := fun k ok hk hki hun hno => by
        refine hfree k ok hk hki ?_ hno
        by_cases hjk : j = k
        · subst hjk; exact hjun
        · rw [getD_set_ne true hjk] at hun; exact hun
      refine wpOp_mono (fun a' w' h3 => ?_) h2
      obtain ⟨hy', hW, h4⟩ := h3
      have hno := head_open hs hc' hn hin hiun'
      have hW' : w' = W := hW (by rw [Array.setIfInBounds_comm _ _ (Ne.symm hji), getD_set_ne true (by omega)]; exact hno)
      subst hW'
      refine ⟨fun _ => rfl, ih (listed.setIfInBounds j true) a' hc' hfree' (ready_mono hr (Ne.symm hji)) hy' ?_⟩
      rw [Array.setIfInBounds_comm _ _ hji]
      exact h4

/-- The operation only takes a tuple apart. -/
def takesApart (ops : Array Oper) (k : Nat) : Bool := match ops[k]? with
  | some o => match o.op with | .extract .. => true | _ => false
  | none => false
def tailB (md : Region.Mode) (ops : Array Oper) : Nat → Nat → Array Bool → Bool
  | 0, _, listed => (Region.ready md ops listed).isEmpty
  | g + 1, k, listed => (decide (Region.ready md ops listed = [k]) || ((Region.ready md ops listed).contains k && takesApart ops k && Region.free md ops listed k)) && tailB md ops g (k + 1) (listed.setIfInBounds k true)
def headB (md : Region.Mode) (ops : Array Oper) (g : Nat) : Nat → Nat → Array Bool → Bool
  | 0, k, listed => decide (Region.ready md ops listed = [k]) && tailB md ops g k listed
  | f + 1, k, listed => (Region.ready md ops listed).contains k && Region.free md ops listed k && headB md ops g f (k + 1) (listed.setIfInBounds k true)
def callB (md : Region.Mode) (ops : Array Oper) (n : Nat) : Bool :=
  Region.noSelect ops && decide (n < ops.size) && Region.sinkB md ops n && headB md ops (ops.size - n) n 0 (Array.replicate ops.size false)
theorem extract_quiet (x : Value) (ix : Nat) (w : World) : ((Instr.extract x ix >>= fun v => pure (Next.value v)).runT P w #[]).2 = #[] := by
  cases x with
  | tuple vs =>
    cases hvs : vs[ix]? with
    | some v => simp only [Instr.extract, hvs]; rfl
    | none => simp only [Instr.extract, hvs]; rfl
  | _ => rfl
theorem apart_yields {o : Oper} {k : Nat} {a : Act} {w : World} {K : Act → World → Prop} (ho : ops[k]? = some o) (ht : takesApart ops k = true)
    (h : if Region.wanted o (yielded ops a.tmps) then o.wp P a w K Q ∨ (o.asks P a w ∧ LetsOut Q) else K (a.put o.dst undef) w) : ∃ v, Yields P ops o v a ∧ K (a.put o.dst v) w := by
  by_cases hw : Region.wanted o (yielded ops a.tmps) = true
  · simp only [hw, if_true] at h
    simp only [takesApart, ho] at ht
    split at ht
    · rename_i t ix hop
      have hx : execOp a.eval o = (Instr.extract (a.eval t) ix >>= fun v => pure (.value v)) := by
        unfold execOp; rw [hop]
      rcases h with h | ⟨h, _⟩
      · unfold Oper.wp at h
        rw [hx] at h
        cases hv : a.eval t with
        | tuple vs =>
          rw [hv] at h hx
          cases hvs : vs[ix]? with
          | some v =>
            have hr : ∀ w, (execOp a.eval o).run P w = .ok (.value v) w := fun w => by
              rw [hx]; simp [Instr.extract, hvs]
            refine ⟨v, .inl ⟨hw, hr⟩, ?_⟩
            rw [← hx, hr] at h
            exact h
          | none => simp [Instr.extract, hvs, stuck, Oper.upon] at h
        | _ => rw [hv] at h; simp [Instr.extract, stuck, Oper.upon] at h
      · unfold Oper.asks at h
        rw [hx, extract_quiet] at h
        simp at h
    · cases ht
  · simp only [hw] at h
    exact ⟨undef, .inr ⟨by simpa using hw, rfl⟩, h⟩
theorem wpAny_of_tail (hsel : Region.noSelect ops = true) (hQ : ∀ c a a' w, Q (.panic c) a w → Q (.panic c) a' w) : ∀ (l : List Oper) (k : Nat) (listed : Array Bool) (a : Act) (w : World), (∀ j, l[j]? = ops[k + j]?) →
    tailB md ops l.length k listed = true → wpList P ops Q l a w → wpAny P md ops Q l.length listed a w
  | [], _, _, _, _, _, hB, h => ⟨by simpa [tailB] using hB, h⟩
  | o :: l, k, listed, a, w, hl, hB, h => by
    have h0 : ops[k]? = some o := by simpa using (hl 0).symm
    have hl' : ∀ j, l[j]? = ops[k + 1 + j]? := fun j => by have := hl (j + 1); simpa [Nat.add_assoc, Nat.add_comm 1 j] using this
    simp only [List.length_cons, tailB, Bool.and_eq_true, Bool.or_eq_true, decide_eq_true_eq] at hB
    obtain ⟨hB, hB'⟩ := hB
    rcases hB with hB | ⟨⟨hr, ht⟩, hf⟩
    · refine ⟨fun h1 => (by rw [hB] at h1; cases h1), fun i hi => ?_⟩
      rw [hB] at hi
      obtain rfl : i = k := by simpa using hi
      have hw : wpOp P ops Q i (wpList P ops Q l) a w := by unfold wpOp; simp only [h0]; exact h
      exact wpOp_mono (fun a' w' h' => wpAny_of_tail hsel hQ l (i + 1) _ a' w' hl' hB' h') hw
    · obtain ⟨v, hy, hK⟩ := apart_yields (K := wpList P ops Q l) h0 ht h
      exact wpAny_take h0 hsel hf hr (fun c a w h => hQ c _ _ w h) hy (wpAny_of_tail hsel hQ l (k + 1) _ _ w hl' hB' hK)
theorem wpAnyC_lex {W : World} {n : Nat} {tl : List Oper} (hsel : Region.noSelect ops = true) (hs : Region.sinkB md ops n = true) (hn : n < ops.size) (hQ : ∀ c a a' w, Q (.panic c) a w → Q (.panic c) a' w)
    (htl : ∀ j, tl[j]? = ops[n + j]?) (hne : tl ≠ []) :
    ∀ (l : List Oper) (k : Nat) (listed : Array Bool) (a : Act), (∀ j, j < l.length → l[j]? = ops[k + j]?) → k + l.length = n → Closed md ops listed →
    headB md ops tl.length l.length k listed = true → wpStill P ops W (fun a' => wpList P ops Q tl a' W) l a →
    wpAnyC P md ops Q W n (l.length + tl.length) listed a W
  | [], k, listed, a, _, hk, hc, hB, h => by
    obtain rfl : k = n := by simpa using hk
    simp only [List.length_nil, headB, Bool.and_eq_true, decide_eq_true_eq] at hB
    have hw := wpAny_of_tail (md := md) hsel hQ tl k listed a W htl hB.2 h
    simp only [List.length_nil, Nat.zero_add]
    cases tl with
    | nil => exact absurd rfl hne
    | cons o tl =>
      refine ⟨fun h1 => (by rw [hB.1] at h1; cases h1), fun i hi => ?_⟩
      have hw2 := hw.2 i hi
      rw [hB.1] at hi
      obtain rfl : i = k := by simpa using hi
      have hil : i < listed.size := by rw [hc.size]; exact hn
      exact wpOp_mono (fun a' w' h' => ⟨fun h0 => by simp [hil] at h0, wpAnyC_of_any _ _ a' w' (by simp [hil]) h'⟩) hw2
  | o :: l, k, listed, a, hl, hk, hc, hB, h => by
    have h0 : ops[k]? = some o := by simpa using (hl 0 (by simp)).symm
    simp only [List.length_cons, headB, Bool.and_eq_true] at hB
    obtain ⟨⟨hr, hf⟩, hB'⟩ := hB
    have hkn : k < n := by simp only [List.length_cons] at hk; omega
    have hr' : k ∈ Region.ready md ops listed := by simpa using hr
    have hst : stOp P ops W k (wpStill P ops W (fun a' => wpList P ops Q tl a' W) l) a := by unfold stOp; simp only [h0]; exact h
    obtain ⟨v, hy, hK⟩ := yieldsAt_of_stOp h0 hst
    have := wpAnyC_first h0 hsel hs hn hkn hQ (l.length + tl.length) listed a hc (Region.free_spec h0 hf) hr' hy
      (wpAnyC_lex hsel hs hn hQ htl hne l (k + 1) _ _ (fun j hj => by have := hl (j + 1) (by simp; omega); simpa [Nat.add_assoc, Nat.add_comm 1 j] using this) (by simp only [List.length_cons] at hk; omega) (hc.set hr') hB' hK)
    rw [List.length_cons, show l.length + 1 + tl.length = l.length + tl.length + 1 by omega]
    exact this
end
/-- The law: n readers, then the call and what it leaves, in the order of the text. -/
theorem wp_region_call {P : Program} {id : Nat} {Q : Exit → Act → World → Prop} {a : Act} {w : World} {l : List Oper} (n : Nat) (hm : P.follows .mixedOrders = true) (hB : callB .any l.toArray n = true)
    (hQ : ∀ c a a' w, Q (.panic c) a w → Q (.panic c) a' w)
    (h : wpStill P l.toArray w.drew (fun a' => wpList P l.toArray Q (l.drop n) a' w.drew) (l.take n) a) : (Code.region id l.toArray true).wp P Q a w := by
  simp only [callB, Bool.and_eq_true, decide_eq_true_eq] at hB
  obtain ⟨⟨⟨hsel, hn⟩, hs⟩, hlex⟩ := hB
  have hn' : n < l.length := by simpa using hn
  have htl : (l.take n).length = n := by simp; omega
  have hdl : (l.drop n).length = l.toArray.size - n := by simp
  have H := wpAnyC_lex (md := .any) (P := P) (Q := Q) (W := w.drew) (tl := l.drop n) hsel hs hn hQ (fun j => by simp [List.getElem?_drop]) (by intro h0; rw [h0] at hdl; simp at hdl; omega) (l.take n) 0 (Array.replicate l.toArray.size false) a (fun j hj => by
    have hj' : j < n := by rw [htl] at hj; exact hj
    simp [hj']) (by simpa using htl) (Closed.start _ _) (by rw [htl, hdl]; exact hlex) h
  rw [htl, hdl, show n + (l.toArray.size - n) = l.toArray.size by omega] at H
  exact wp_region_any hm (wpAny_of_C _ _ _ _ H)
/-- The same, whatever the post says of a panic: the region is shown not to panic. -/
theorem wp_region_callN {P : Program} {id : Nat} {Q : Exit → Act → World → Prop} {a : Act} {w : World} {l : List Oper} (n : Nat) (hm : P.follows .mixedOrders = true) (hB : callB .any l.toArray n = true)
    (h : wpStill P l.toArray w.drew (fun a' => wpList P l.toArray (NoPanic Q) (l.drop n) a' w.drew) (l.take n) a) : (Code.region id l.toArray true).wp P Q a w :=
  wp_region_noPanic (wp_region_call n hm hB (fun _ _ _ _ h => h.elim) h)
end Go.Proofs.Ytjaofbfppnmdjaa
