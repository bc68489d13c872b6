/- The memory of the law EventSurvives: a publisher, a row of stations, two rings. -/
import Derived.Test.YtimnepfdpehdmaaLatM
import Derived.Test.YtimnepfdpehdmaaEvP
import Derived.Test.YtimnepfdpehdmaaRingB
namespace Go.Proofs.Ytimnepfdpehdmaa
open Go.RowKit

/-! ### A row of stations -/
theorem splice_get {cs vs : List Value} {o k : Nat} (h : o + vs.length ≤ cs.length) : (cs.take o ++ vs ++ cs.drop (o + vs.length))[k]? = if o ≤ k ∧ k < o + vs.length then vs[k - o]? else cs[k]? := by
  have ho : (cs.take o).length = o := by rw [List.length_take]; omega
  split
  · rename_i hk
    rw [List.append_assoc, List.getElem?_append_right (by omega), ho, List.getElem?_append_left (by omega)]
  · rename_i hk
    by_cases h1 : k < o
    · rw [List.append_assoc, List.getElem?_append_left (by omega), List.getElem?_take_of_lt h1]
    · rw [List.getElem?_append_right (by rw [List.length_append]; omega), List.length_append, ho, List.getElem?_drop]
      congr 1
      omega
/-- 'put', counted from o on. -/
def putB (w : World) (B o : Nat) : Nat → List Value → World
  | _, [] => w
  | j, v :: vs => putB (w.setCell ⟨B, o + j, none⟩ v) B o (j + 1) vs
theorem putB_eq (B o : Nat) : ∀ (vs : List Value) (j : Nat) (w : World), putB w B o j vs = put w B (o + j) vs
  | [], _, _ => rfl
  | v :: vs, j, w => by rw [putB, put, putB_eq B o vs (j + 1), Nat.add_assoc]
/-- What a station's cells hold. -/
def StAt (V : Nat → Prop) (w : World) (cs : List Value) (o : Nat) (x : St) : Prop := ∃ a c a' c', (∀ j, j < 10 → cs[o + j]? = (stC (.slice a x.box.length c) x.sub (.slice a' x.sub.vals.length c'))[j]?) ∧ RF V 3 srcE w (.slice a x.box.length c) x.box ∧ RF V 6 valE w (.slice a' x.sub.vals.length c') x.sub.vals
/-- The block BN is a row of the stations xs, whose lists lie outside V. -/
def Stns (V : Nat → Prop) (w : World) (BN : Nat) (xs : List St) : Prop := ∃ cs : List Value, Bk w BN 40 cs.toArray ∧ cs.length = xs.length * 10 ∧ ∀ (i : Nat) x, xs[i]? = some x → StAt V w cs (i * 10) x
section
variable {V : Nat → Prop} {w w' : World} {BN : Nat} {xs : List St}
theorem Stns.lt (h : Stns V w BN xs) : BN < w.heap.size := by
  obtain ⟨cs, hb, _⟩ := h; exact hb.lt
theorem Stns.frozen (h : Stns V w BN xs) (j : Nat) : w.frozen? ⟨BN, j, none⟩ = false := by
  obtain ⟨cs, hb, _⟩ := h; exact hb.frozen j
theorem Stns.get (h : Stns V w BN xs) {i : Nat} {x : St} (hx : xs[i]? = some x) : ∃ a c a' c', (∀ j, j < 10 → w.cell? ⟨BN, i * 10 + j, none⟩ = (stC (.slice a x.box.length c) x.sub (.slice a' x.sub.vals.length c'))[j]?) ∧ RF V 3 srcE w (.slice a x.box.length c) x.box ∧ RF V 6 valE w (.slice a' x.sub.vals.length c') x.sub.vals := by
  obtain ⟨cs, hb, _, hs⟩ := h
  obtain ⟨a, c, a', c', h1, h2, h3⟩ := hs i x hx
  refine ⟨a, c, a', c', fun j hj => ?_, h2, h3⟩
  rw [hb.cell, List.getElem?_toArray]
  exact h1 j hj
theorem Stns.ext (h : Stns V w BN xs) (he : Ext w w') : Stns V w' BN xs := by
  obtain ⟨cs, hb, hl, hs⟩ := h
  refine ⟨cs, hb.ext he, hl, fun i x hx => ?_⟩
  obtain ⟨a, c, a', c', h1, h2, h3⟩ := hs i x hx
  exact ⟨a, c, a', c', h1, h2.ext he, h3.ext he⟩
theorem Stns.other (h : Stns V w BN xs) {B : Nat} (hB : B ≠ BN) (hV : V B) (vs : List Value) (j : Nat) : Stns V (put w B j vs) BN xs := by
  obtain ⟨cs, hb, hl, hs⟩ := h
  refine ⟨cs, put_other hB _ _ _ hb, hl, fun i x hx => ?_⟩
  obtain ⟨a, c, a', c', h1, h2, h3⟩ := hs i x hx
  exact ⟨a, c, a', c', h1, h2.agree (agree_put hV _ _ _), h3.agree (agree_put hV _ _ _)⟩
theorem Stns.putX (h : Stns V w BN xs) (hV : V BN) {i : Nat} {x : St} (hi : i < xs.length) {a a' : Option Addr} {c c' : Nat} (r1 : RF V 3 srcE w (.slice a x.box.length c) x.box) (r2 : RF V 6 valE w (.slice a' x.sub.vals.length c') x.sub.vals) :
    Stns V (put w BN (i * 10) (stC (.slice a x.box.length c) x.sub (.slice a' x.sub.vals.length c')).toList) BN (xs.set i x) := by
  obtain ⟨cs, hb, hl, hs⟩ := h
  have hlen : (stC (.slice a x.box.length c) x.sub (.slice a' x.sub.vals.length c')).toList.length = 10 := rfl
  have hle : i * 10 + (stC (.slice a x.box.length c) x.sub (.slice a' x.sub.vals.length c')).toList.length ≤ cs.length := by rw [hlen]; omega
  have A := agree_put (V := V) (B := BN) hV (stC (.slice a x.box.length c) x.sub (.slice a' x.sub.vals.length c')).toList (i * 10) w
  refine ⟨_, put_at _ cs (i * 10) w hb hle, by simp only [List.length_append, List.length_take, List.length_drop, hlen, List.length_set]; omega, fun i' x' hx' => ?_⟩
  by_cases he : i' = i
  · subst he
    rw [List.getElem?_set_self hi] at hx'
    injection hx' with hx'
    subst hx'
    refine ⟨a, c, a', c', fun j hj => ?_, r1.agree A, r2.agree A⟩
    rw [splice_get hle, hlen, if_pos (by omega), show i' * 10 + j - i' * 10 = j by omega, Array.getElem?_toList]
  · rw [List.getElem?_set_ne (fun e => he e.symm)] at hx'
    obtain ⟨b, d, b', d', h1, h2, h3⟩ := hs i' x' hx'
    refine ⟨b, d, b', d', fun j hj => ?_, h2.agree A, h3.agree A⟩
    rw [splice_get hle, hlen, if_neg (by omega)]
    exact h1 j hj
theorem Stns.putS (h : Stns V w BN xs) (hV : V BN) {i : Nat} {x : St} (hx : xs[i]? = some x) {u : SSt} {a' : Option Addr} {c' : Nat} (r2 : RF V 6 valE w (.slice a' u.vals.length c') u.vals) :
    Stns V (put w BN (i * 10 + 1) (subC u (.slice a' u.vals.length c')).toList) BN (xs.set i ⟨x.box, u⟩) := by
  obtain ⟨cs, hb, hl, hs⟩ := h
  have hi := get_lt hx
  have hlen : (subC u (.slice a' u.vals.length c')).toList.length = 9 := rfl
  have hle : i * 10 + 1 + (subC u (.slice a' u.vals.length c')).toList.length ≤ cs.length := by rw [hlen]; omega
  have A := agree_put (V := V) (B := BN) hV (subC u (.slice a' u.vals.length c')).toList (i * 10 + 1) w
  refine ⟨_, put_at _ cs (i * 10 + 1) w hb hle, by simp only [List.length_append, List.length_take, List.length_drop, hlen, List.length_set]; omega, fun i' x' hx' => ?_⟩
  by_cases he : i' = i
  · subst he
    rw [List.getElem?_set_self hi] at hx'
    injection hx' with hx'
    subst hx'
    obtain ⟨b, d, b', d', h1, h2, h3⟩ := hs i' x hx
    refine ⟨b, d, a', c', fun j hj => ?_, h2.agree A, r2.agree A⟩
    rw [splice_get hle, hlen]
    by_cases hj0 : j = 0
    · subst hj0
      rw [if_neg (by omega), h1 0 (by omega)]
      rfl
    · obtain ⟨j, rfl⟩ : ∃ k, j = k + 1 := ⟨j - 1, by omega⟩
      rw [if_pos (by omega), show i' * 10 + (j + 1) - (i' * 10 + 1) = j by omega, ← Array.getElem?_toList]
      rfl
  · rw [List.getElem?_set_ne (fun e => he e.symm)] at hx'
    obtain ⟨b, d, b', d', h1, h2, h3⟩ := hs i' x' hx'
    refine ⟨b, d, b', d', fun j hj => ?_, h2.agree A, h3.agree A⟩
    rw [splice_get hle, hlen, if_neg (by omega)]
    exact h1 j hj
end
/-! ### The variables of the law -/
def EV (BP BN : Nat) : Nat → Prop := fun g => g = BP ∨ g = BN
structure EMem (w0 wr : World) (BP BN : Nat) (p : PSt) (vp : Value) (xs : List St) : Prop where
  ext : Ext w0 wr
  ba : w0.heap.size ≤ BP ∧ w0.heap.size ≤ BN ∧ BP ≠ BN
  bp : Bk wr BP 29 (pubC p vp)
  pv : RF (EV BP BN) 6 valE wr vp p.vals
  sn : Stns (EV BP BN) wr BN xs
section
variable {w0 wr wr' : World} {BP BN : Nat} {p : PSt} {vp : Value} {xs : List St}
theorem EMem.lt (M : EMem w0 wr BP BN p vp xs) : ∀ g, EV BP BN g → g < wr.heap.size := by
  intro g hg
  rcases hg with rfl | rfl
  · exact M.bp.lt
  · exact M.sn.lt
theorem EMem.to (M : EMem w0 wr BP BN p vp xs) (h : Ext wr wr') : EMem w0 wr' BP BN p vp xs := ⟨M.ext.trans h, M.ba, M.bp.ext h, M.pv.ext h, M.sn.ext h⟩
theorem EMem.putP (M : EMem w0 wr BP BN p vp xs) {p' : PSt} {vp' : Value} (r : RF (EV BP BN) 6 valE wr vp' p'.vals) : EMem w0 (put wr BP 0 (pubC p' vp').toList) BP BN p' vp' xs :=
  ⟨put_ext M.ba.1 _ 0 _ M.ext, M.ba, put_all M.bp rfl, r.agree (agree_put (.inl rfl) _ 0 _), M.sn.other M.ba.2.2 (.inl rfl) _ 0⟩
theorem EMem.putX (M : EMem w0 wr BP BN p vp xs) {i : Nat} {x : St} (hi : i < xs.length) {a a' : Option Addr} {c c' : Nat} (r1 : RF (EV BP BN) 3 srcE wr (.slice a x.box.length c) x.box) (r2 : RF (EV BP BN) 6 valE wr (.slice a' x.sub.vals.length c') x.sub.vals) :
    EMem w0 (put wr BN (i * 10) (stC (.slice a x.box.length c) x.sub (.slice a' x.sub.vals.length c')).toList) BP BN p vp (xs.set i x) :=
  ⟨put_ext M.ba.2.1 _ _ _ M.ext, M.ba, put_other (Ne.symm M.ba.2.2) _ _ _ M.bp, M.pv.agree (agree_put (.inr rfl) _ _ _), M.sn.putX (.inr rfl) hi r1 r2⟩
theorem EMem.putS (M : EMem w0 wr BP BN p vp xs) {i : Nat} {x : St} (hx : xs[i]? = some x) {u : SSt} {a' : Option Addr} {c' : Nat} (r2 : RF (EV BP BN) 6 valE wr (.slice a' u.vals.length c') u.vals) :
    EMem w0 (put wr BN (i * 10 + 1) (subC u (.slice a' u.vals.length c')).toList) BP BN p vp (xs.set i ⟨x.box, u⟩) :=
  ⟨put_ext M.ba.2.1 _ _ _ M.ext, M.ba, put_other (Ne.symm M.ba.2.2) _ _ _ M.bp, M.pv.agree (agree_put (.inr rfl) _ _ _), M.sn.putS (.inr rfl) hx r2⟩
end
/-! ### The stations, and what they know -/
/-- Station i: the sender's own one hears nothing; another one has the first m messages. -/
def Stn (fr : Nat) (c : Int) (H : List Snt) (m i : Nat) (x : St) : Prop := (i = fr ∧ x = ⟨[], newSub 5 77⟩) ∨ (i ≠ fr ∧ Rcv (fr : Int) c H m x)
/-- Stations below i have m' messages, the others m. -/
def Sts (fr : Nat) (c c' : Int) (H : List Snt) (m m' i : Nat) (xs : List St) : Prop := ∀ (j : Nat) x, xs[j]? = some x → if j < i then Stn fr c' H m' j x else Stn fr c H m j x
theorem tick_new : tickS (newSub 5 77) = newSub 5 77 := by decide +kernel
theorem Stn.tick {fr : Nat} {c : Int} {H : List Snt} {m i : Nat} {x : St} (h : Stn fr c H m i x) : Stn fr (c + 1) H m i ⟨x.box, tickS x.sub⟩ := by
  rcases h with ⟨h1, rfl⟩ | ⟨h1, h2⟩
  · exact .inl ⟨h1, by rw [tick_new]⟩
  · exact .inr ⟨h1, h2.tick⟩
theorem Stn.snoc {fr : Nat} {c : Int} {H : List Snt} {m i : Nat} {x : St} (h : Stn fr c H m i x) (s : Snt) : Stn fr c (H ++ [s]) m i x := by
  rcases h with h | ⟨h1, h2⟩
  · exact .inl h
  · exact .inr ⟨h1, h2.snoc s⟩
theorem Stn.ok {fr : Nat} {c : Int} {H : List Snt} {m i : Nat} {x : St} (hR : Row1 c H) (h : Stn fr c H m i x) : x.sub.vals.length ≤ 100 ∧ (0 ≤ x.sub.lost ∧ x.sub.lost ≤ 1000000) ∧ x.sub.left ≤ 1000 ∧ x.box.length ≤ 1 ∧ (∀ y ∈ x.box, WfX y) := by
  rcases h with ⟨_, rfl⟩ | ⟨_, h2⟩
  · exact ⟨by simp [newSub], by simp [newSub], by simp [newSub], by simp, fun y hy => (by cases hy)⟩
  · exact h2.inv.ok hR
theorem Sts.at {fr : Nat} {c c' : Int} {H : List Snt} {m m' i : Nat} {xs : List St} (h : Sts fr c c' H m m' i xs) {x : St} (hx : xs[i]? = some x) : Stn fr c H m i x := by
  have := h i x hx
  rwa [if_neg (Nat.lt_irrefl _)] at this
theorem Sts.put {fr : Nat} {c c' : Int} {H : List Snt} {m m' i : Nat} {xs : List St} (h : Sts fr c c' H m m' i xs) (hi : i < xs.length) {x : St} (hx : Stn fr c' H m' i x) : Sts fr c c' H m m' (i + 1) (xs.set i x) := by
  intro j y hy
  by_cases he : j = i
  · subst he
    rw [List.getElem?_set_self hi] at hy
    injection hy with hy
    subst hy
    rw [if_pos (Nat.lt_succ_self _)]
    exact hx
  · rw [List.getElem?_set_ne (fun e => he e.symm)] at hy
    have := h j y hy
    by_cases hji : j < i
    · rw [if_pos hji] at this; rw [if_pos (by omega)]; exact this
    · rw [if_neg hji] at this; rw [if_neg (by omega)]; exact this
theorem Sts.keep {fr : Nat} {c c' : Int} {H : List Snt} {m m' i : Nat} {xs : List St} (h : Sts fr c c' H m m' i xs) (hk : ∀ x, xs[i]? = some x → Stn fr c' H m' i x) : Sts fr c c' H m m' (i + 1) xs := by
  intro j y hy
  have := h j y hy
  by_cases he : j = i
  · subst he
    rw [if_pos (Nat.lt_succ_self _)]
    exact hk y hy
  · by_cases hji : j < i
    · rw [if_pos hji] at this; rw [if_pos (by omega)]; exact this
    · rw [if_neg hji] at this; rw [if_neg (by omega)]; exact this
/-- All stations have m messages. -/
def StsA (fr : Nat) (c : Int) (H : List Snt) (m : Nat) (xs : List St) : Prop := ∀ (j : Nat) x, xs[j]? = some x → Stn fr c H m j x
theorem StsA.start {fr : Nat} {c : Int} {H : List Snt} {m : Nat} {xs : List St} (h : StsA fr c H m xs) (c' : Int) (m' : Nat) : Sts fr c c' H m m' 0 xs := fun j x hx => by
  rw [if_neg (Nat.not_lt_zero _)]; exact h j x hx
theorem Sts.done {fr : Nat} {c c' : Int} {H : List Snt} {m m' i : Nat} {xs : List St} (h : Sts fr c c' H m m' i xs) (hi : xs.length ≤ i) : StsA fr c' H m' xs := fun j x hx => by
  have := h j x hx
  rwa [if_pos (Nat.lt_of_lt_of_le (get_lt hx) hi)] at this
theorem StsA.snoc {fr : Nat} {c : Int} {H : List Snt} {m : Nat} {xs : List St} (h : StsA fr c H m xs) (s : Snt) : StsA fr c (H ++ [s]) m xs := fun j x hx => (h j x hx).snoc s
theorem Stn.take {fr : Nat} {c : Int} {H : List Snt} {s : Snt} {m i : Nat} {x : St} (hfr : fr ≤ 40) (hR : Row1 c (H ++ [s])) (ht : s.t = c) (hm : m = H.length ∨ m = H.length + 1) (hS : ∀ a, H[H.length - 1]? = some a → Succ1 a.m s.m) (hl : H.length ≤ 300) (hi : i ≠ fr) (h : Stn fr c (H ++ [s]) m i x) :
    Stn fr c (H ++ [s]) (H.length + 1) i (takeF (fr : Int) x s.m ((65530 + (H.length : Int)) % 65536)) := by
  rcases h with ⟨h1, _⟩ | ⟨_, h2⟩
  · exact absurd h1 hi
  · exact .inr ⟨hi, h2.take (by omega) hR ht hm hS hl⟩
theorem Stn.done {fr : Nat} {c : Int} {p : PSt} {H : List Snt} {i : Nat} {x : St} (hP : Pinv c p H) (hs : p.started = true) (hi : i ≠ fr) (h : Stn fr c H H.length i x) : validS x.sub = true ∧ x.sub.vals = p.vals ∧ x.sub.lost = 0 := by
  rcases h with ⟨h1, _⟩ | ⟨_, h2⟩
  · exact absurd h1 hi
  · exact h2.done hP hs
/-- A station takes a copy: the contract, where the law calls it. -/
theorem take_ev {w0 wr w1 : World} {BP BN fr : Nat} {p : PSt} {vp : Value} {xs : List St} {c : Int} {H' : List Snt} {m i : Nat} {x : St} {s : Snt} {a a' : Option Addr} {k k' : Nat} {u : Value} {q : Int} (M : EMem w0 wr BP BN p vp xs) (hR : Row1 c H') (h : Stn fr c H' m i x) (hs : s ∈ H') (hfr : fr ≤ 40) (hq : 0 ≤ q ∧ q ≤ 65535)
    (r1 : RF (EV BP BN) 3 srcE wr (.slice a x.box.length k) x.box) (r2 : RF (EV BP BN) 6 valE wr (.slice a' x.sub.vals.length k') x.sub.vals) (net : Int) (hnet : net = 0 ∨ net = 1) (he : Ext wr w1) (hu : RB Any w1 u (frame (encMB s.m) (fr : Int) q net)) :
    Calls Try.prog 11 #[stA (.slice a x.box.length k) x.sub (.slice a' x.sub.vals.length k'), u] w1 (RetStn (EV BP BN) w1 (takeF (fr : Int) x s.m q)) := by
  obtain ⟨k1, k2, k3, k4, k5⟩ := h.ok hR
  have hfi := (hR.fine s hs).1
  refine take17_any x s.m (fr : Int) q net _ _ u w1 ((r1.ext he).weak (by omega) (V' := Any) (fun _ _ h => h.elim)) (r2.ext he) (fun g hg => he.lt (M.lt g hg)) hu ?_ hnet (encMB_len hfi.chk hfi.enc) hfi.enc hfi.inn (by omega) k5 (by omega) k2
  unfold word
  rw [decide_eq_true (by omega), decide_eq_true (by omega), decide_eq_true (by omega), decide_eq_true (by omega)]
  rfl
/-! ### The beginning -/
theorem info_stationT : (Try.prog.info? 40).map (fun i => (i.zero.map (·.cells), i.size, i.bytes)) = some (some (stC (.slice none 0 0) (newSub 0 0) (.slice none 0 0)), 10, 112) := by kernel_rfl
theorem make_stations (k : Nat) (hk : k ≤ 1000) : ∃ cur : List Value, cur.length = k * 10 ∧ (∀ i : Nat, i < k → ∀ j, j < 10 → cur[i * 10 + j]? = (stC (.slice none 0 0) (newSub 0 0) (.slice none 0 0))[j]?) ∧ ∀ W : World, (Instr.makeSlice 69 (.int .i64 (k : Int)) (.int .i64 (k : Int))).run Try.prog W = .ok (.slice (some ⟨W.heap.size, 0, none⟩) k k) (W.alloc (.cells cur.toArray 40)) := by
  have h := info_stationT
  cases hi : Try.prog.info? 40 with
  | none => rw [hi] at h; cases h
  | some ii =>
    rw [hi] at h
    simp only [Option.map_some, Option.some.injEq, Prod.mk.injEq] at h
    obtain ⟨hz, hz1, hz2⟩ := h
    cases hzz : ii.zero with
    | none => rw [hzz] at hz; cases hz
    | some z =>
      rw [hzz] at hz
      simp only [Option.map_some, Option.some.injEq] at hz
      refine ⟨(madeCells z.cells (k * 10)).toList, by rw [Array.length_toList, size_madeCells], fun i hi j hj => ?_, fun W => ?_⟩
      · rw [Array.getElem?_toList, hz]
        unfold madeCells
        rw [Array.getElem?_map, Array.getElem?_range, if_pos (by omega)]
        show some _ = _
        have e : (i * 10 + j) % (stC (.slice none 0 0) (newSub 0 0) (.slice none 0 0)).size = j := by
          show (i * 10 + j) % 10 = j
          omega
        simp only [e]
        rw [getElem!_pos _ j hj, Array.getElem?_eq_getElem hj]
      · have := run_make (P := Try.prog) W 69 40 ii _ Try.underlying69 hi hzz .i64 .i64 k k (by omega) (Int.le_refl _) (by rw [hz2]; omega) (by omega)
        simp only [Int.toNat_natCast, hz1] at this
        rw [this]
end Go.Proofs.Ytimnepfdpehdmaa
