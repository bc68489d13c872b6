/- Messages of a publisher on two networks, and what a station makes of the copies, in whatever order they come: plain laws of the top. -/
import Derived.Test.YtimnepfdpehdmaaTL
import Derived.Test.YtimnepfdpehdmaaTK
import Derived.Test.YtimnepfdpehdmaaTQ
import Derived.Test.YtimnepfdpehdmaaTF
namespace Go.Proofs.Ytimnepfdpehdmaa
open Go.RowKit

/-- A message and the step in which it was sent. -/
structure Snt where
  m : Msg
  t : Int
/-- A message that a station can take. -/
structure Fine (m : Msg) : Prop where
  chk : chkM m = 0
  enc : encME m = 0
  inn : ∀ x ∈ m.vals, inN x
  pub : m.pub = 5
  rev : m.rev = 77
  test : m.test = false
  st : 1 ≤ m.state ∧ m.state ≤ 1000
  sq : 0 ≤ m.seq ∧ m.seq ≤ 1000
  tl : 7 ≤ m.ttl ∧ m.ttl ≤ 28
def Older (a b : Snt) : Prop := a.m.state < b.m.state ∨ a.m.state = b.m.state ∧ a.m.seq < b.m.seq ∧ a.m.vals = b.m.vals
theorem Older.trans {a b c : Snt} (h : Older a b) (k : Older b c) : Older a c := by
  unfold Older at *
  rcases h with h | ⟨h1, h2, h3⟩
  · left
    rcases k with k | ⟨k, _, _⟩ <;> omega
  · rcases k with k | ⟨k1, k2, k3⟩
    · left; omega
    · exact .inr ⟨by omega, by omega, h3.trans k3⟩
/-- a comes next ahead of b. -/
def Next (a b : Snt) : Prop := Older a b ∧ a.t < b.t ∧ 3 * (b.t - a.t) + 1 ≤ a.m.ttl
/-- The messages that were sent, in their order. -/
structure Row1 (c : Int) (H : List Snt) : Prop where
  fine : ∀ s ∈ H, Fine s.m ∧ 0 ≤ s.t ∧ s.t ≤ c
  fst : ∀ s, H[0]? = some s → s.t = 0
  nxt : ∀ i a b, H[i]? = some a → H[i + 1]? = some b → Next a b
theorem Row1.later {c : Int} {H : List Snt} (h : Row1 c H) : ∀ (d i : Nat) (a b : Snt), H[i]? = some a → H[i + d + 1]? = some b → Older a b ∧ a.t + d + 1 ≤ b.t
  | 0, i, a, b, ha, hb => by
    obtain ⟨h1, h2, _⟩ := h.nxt i a b ha hb
    exact ⟨h1, by omega⟩
  | d + 1, i, a, b, ha, hb => by
    have hlt := get_lt hb
    obtain ⟨m, hm⟩ : ∃ m, H[i + 1]? = some m := ⟨_, List.getElem?_eq_getElem (by omega)⟩
    obtain ⟨h1, h2, _⟩ := h.nxt i a m ha hm
    obtain ⟨h3, h4⟩ := h.later d (i + 1) m b hm (by rw [show i + 1 + d + 1 = i + (d + 1) + 1 by omega]; exact hb)
    exact ⟨h1.trans h3, by omega⟩
theorem Row1.lt {c : Int} {H : List Snt} (h : Row1 c H) {i j : Nat} {a b : Snt} (ha : H[i]? = some a) (hb : H[j]? = some b) (hij : i < j) : Older a b ∧ a.t + (j - i : Nat) ≤ b.t := by
  obtain ⟨d, rfl⟩ : ∃ d, j = i + d + 1 := ⟨j - i - 1, by omega⟩
  obtain ⟨h1, h2⟩ := h.later d i a b ha hb
  exact ⟨h1, by omega⟩
theorem Row1.mono {c c' : Int} {H : List Snt} (h : Row1 c H) (hc : c ≤ c') : Row1 c' H := ⟨fun s hs => by obtain ⟨h1, h2, h3⟩ := h.fine s hs; exact ⟨h1, h2, by omega⟩, h.fst, h.nxt⟩
theorem Row1.nil (c : Int) : Row1 c [] := ⟨fun _ h => (by cases h), fun _ h => (by simp at h), fun _ _ _ h => (by simp at h)⟩
theorem Row1.snoc {c : Int} {H : List Snt} {m : Msg} (h : Row1 c H) (hf : Fine m) (hc : 0 ≤ c + 1) (h0 : H = [] → c + 1 = 0) (hn : ∀ a, H[H.length - 1]? = some a → Next a ⟨m, c + 1⟩) : Row1 (c + 1) (H ++ [⟨m, c + 1⟩]) := by
  refine ⟨fun s hs => ?_, fun s hs => ?_, fun i a b ha hb => ?_⟩
  · simp only [List.mem_append, List.mem_singleton] at hs
    rcases hs with hs | rfl
    · obtain ⟨h1, h2, h3⟩ := h.fine s hs
      exact ⟨h1, h2, by omega⟩
    · exact ⟨hf, hc, Int.le_refl _⟩
  · by_cases hl : H = []
    · subst hl
      simp at hs
      rw [← hs]
      exact h0 rfl
    · have : 0 < H.length := List.length_pos_iff.2 hl
      rw [List.getElem?_append_left this] at hs
      exact h.fst s hs
  · have hb' := get_lt hb
    simp only [List.length_append, List.length_singleton] at hb'
    by_cases hi : i + 1 < H.length
    · rw [List.getElem?_append_left (by omega)] at ha
      rw [List.getElem?_append_left hi] at hb
      exact h.nxt i a b ha hb
    · have hi2 : i + 1 = H.length := by omega
      rw [List.getElem?_append_left (by omega)] at ha
      rw [List.getElem?_append_right (by omega), hi2, Nat.sub_self] at hb
      simp only [List.getElem?_cons_zero, Option.some.injEq] at hb
      subst hb
      exact hn a (by rw [show H.length - 1 = i by omega]; exact ha)

/-! ### A station -/
structure St where
  box : List Src3
  sub : SSt
/-- The subscriber holds message s. -/
structure SubIs (c : Int) (u : SSt) (s : Snt) : Prop where
  pub : u.pub = 5
  rev : u.rev = 77
  kn : u.known = true
  state : u.state = s.m.state
  seq : u.seq = s.m.seq
  test : u.test = false
  vals : u.vals = s.m.vals
  left : s.m.ttl ≤ u.left + (c - s.t)
  l0 : 0 ≤ u.left
  l1 : u.left ≤ 1000
  lo : 0 ≤ u.lost ∧ u.lost ≤ 1000000
/-- The frames g have come in. -/
structure StInv (src st c : Int) (H : List Snt) (g : Nat → Bool) (x : St) : Prop where
  box : TwinO src st g x.box
  len : ∀ j, g j = true → j < H.length
  sub : ((∀ j, g j = false) ∧ x.sub = newSub 5 77) ∨ ∃ top s, g top = true ∧ (∀ j, g j = true → j ≤ top) ∧ H[top]? = some s ∧ SubIs c x.sub s
theorem StInv.new (src st c : Int) (H : List Snt) : StInv src st c H (fun _ => false) ⟨[], newSub 5 77⟩ := ⟨.inl ⟨fun _ => rfl, rfl⟩, fun _ h => (by cases h), .inl ⟨fun _ => rfl, rfl⟩⟩
theorem StInv.snoc {src st c : Int} {H : List Snt} {g : Nat → Bool} {x : St} (h : StInv src st c H g x) (s : Snt) : StInv src st c (H ++ [s]) g x := by
  refine ⟨h.box, fun j hj => by have := h.len j hj; simp; omega, ?_⟩
  rcases h.sub with h1 | ⟨top, s0, h1, h2, h3, h4⟩
  · exact .inl h1
  · exact .inr ⟨top, s0, h1, h2, by rw [List.getElem?_append_left (get_lt h3)]; exact h3, h4⟩
theorem StInv.tick {src st c : Int} {H : List Snt} {g : Nat → Bool} {x : St} (h : StInv src st c H g x) : StInv src st (c + 1) H g ⟨x.box, tickS x.sub⟩ := by
  refine ⟨h.box, h.len, ?_⟩
  rcases h.sub with ⟨h1, h2⟩ | ⟨top, s0, h1, h2, h3, h4⟩
  · exact .inl ⟨h1, by show tickS x.sub = _; rw [h2]; decide +kernel⟩
  · refine .inr ⟨top, s0, h1, h2, h3, ?_⟩
    show SubIs (c + 1) (tickS x.sub) s0
    unfold tickS
    have hl := h4.left
    split
    · exact ⟨h4.pub, h4.rev, h4.kn, h4.state, h4.seq, h4.test, h4.vals, by simp only; omega, by simp only; omega, by have := h4.l1; simp only; omega, h4.lo⟩
    · exact ⟨h4.pub, h4.rev, h4.kn, h4.state, h4.seq, h4.test, h4.vals, by omega, h4.l0, h4.l1, h4.lo⟩
theorem StInv.congr {src st c : Int} {H : List Snt} {g g' : Nat → Bool} {x : St} (h : StInv src st c H g x) (e : ∀ j, g j = g' j) : StInv src st c H g' x := by
  have : g = g' := funext e
  rw [← this]; exact h
/-- What a station makes of a copy of message m. -/
def takeF (src : Int) (x : St) (m : Msg) (q : Int) : St := ⟨(accT x.box src q).1, if (accT x.box src q).2 = true then (takeS x.sub m).1 else x.sub⟩
theorem raise_in {n k : Int} (h0 : 0 ≤ n) (h1 : n ≤ 1000000) (hk : 0 ≤ k) : 0 ≤ raiseS n k ∧ raiseS n k ≤ 1000000 := by
  unfold raiseS
  split <;> omega
theorem SubIs.acc {c : Int} {u : SSt} {s : Snt} (hp : u.pub = 5) (hr : u.rev = 77) (hlo : 0 ≤ u.lost ∧ u.lost ≤ 1000000) (hf : Fine s.m) (ht : s.t ≤ c) (k : Int) (hk : 0 ≤ k) : SubIs c (accS u s.m k) s := by
  have h := raise_in hlo.1 hlo.2 hk
  have := hf.tl
  exact ⟨hp, hr, rfl, rfl, rfl, hf.test, rfl, by simp only [accS]; omega, by simp only [accS]; omega, by simp only [accS]; omega, h⟩
/-- A newer message is taken, an older one is not. -/
theorem take_newer {c : Int} {u : SSt} {s0 s : Snt} (h : SubIs c u s0) (h0 : Fine s0.m) (hf : Fine s.m) (ho : Older s0 s) : ∃ k, 0 ≤ k ∧ (takeS u s.m).1 = accS u s.m k := by
  have e1 := h.state
  have e2 := h.seq
  have f1 := h0.st
  have f2 := h0.sq
  have f3 := hf.st
  have f4 := hf.sq
  have d1 := dist_small (a := u.seq) (b := s.m.seq) (by omega) (by omega) (by omega) (by omega)
  have d2 := dist_small (a := u.state) (b := s.m.state) (by omega) (by omega) (by omega) (by omega)
  unfold takeS
  rw [if_neg (by rw [hf.chk, hf.pub, hf.rev, h.pub, h.rev]; simp), if_neg (by rw [h.kn]; simp)]
  split
  · exact ⟨0, by omega, rfl⟩
  · rcases ho with ho | ⟨ho1, ho2, ho3⟩
    · rw [if_neg (by omega), if_pos (d2.1.2 (by omega))]
      exact ⟨_, by have := d2.2 (by omega); omega, rfl⟩
    · rw [if_pos (by omega), if_pos ⟨d1.1.2 (by omega), by rw [hf.test, h.test], by rw [h.vals, ho3]⟩]
      exact ⟨_, by have := d1.2 (by omega); omega, rfl⟩
theorem take_older {c : Int} {u : SSt} {s0 s : Snt} (h : SubIs c u s0) (h0 : Fine s0.m) (hf : Fine s.m) (ho : Older s s0) (hl : 1 ≤ u.left) : (takeS u s.m).1 = u := by
  have e1 := h.state
  have e2 := h.seq
  have f1 := h0.st
  have f2 := h0.sq
  have f3 := hf.st
  have f4 := hf.sq
  have d1 := dist_small (a := u.seq) (b := s.m.seq) (by omega) (by omega) (by omega) (by omega)
  have d2 := dist_small (a := u.state) (b := s.m.state) (by omega) (by omega) (by omega) (by omega)
  unfold takeS
  rw [if_neg (by rw [hf.chk, hf.pub, hf.rev, h.pub, h.rev]; simp), if_neg (by rw [h.kn]; simp), if_neg (by omega)]
  rcases ho with ho | ⟨ho1, ho2, ho3⟩
  · rw [if_neg (by omega), if_neg (by intro hh; have := d2.1.1 hh; omega)]
  · rw [if_pos (by omega), if_neg (by intro hh; have := d1.1.1 hh.1; omega)]
/-- A copy comes in. -/
theorem arrive {src st c : Int} {H : List Snt} {g : Nat → Bool} {x : St} {f : Nat} {s : Snt} (hsrc : 0 ≤ src ∧ src ≤ 65535) (hR : Row1 c H) (h : StInv src st c H g x) (hf : H[f]? = some s) (ht : c ≤ s.t + 5) (hf3 : f ≤ 300) :
    StInv src st c H (fun j => g j || decide (j = f)) (takeF src x s.m ((st + (f : Int)) % 65536)) ∧ (x.sub.known = true → (takeF src x s.m ((st + (f : Int)) % 65536)).sub.known = true ∧ x.sub.state ≤ (takeF src x s.m ((st + (f : Int)) % 65536)).sub.state) := by
  obtain ⟨hfi, ht0, htc⟩ := hR.fine s (List.mem_of_getElem? hf)
  have hfl := get_lt hf
  have hw : ∀ j, g j = true → j ≤ f + 63 := fun j hj => by
    have hjl := h.len j hj
    obtain ⟨sj, hsj⟩ : ∃ sj, H[j]? = some sj := ⟨_, List.getElem?_eq_getElem hjl⟩
    rcases Nat.lt_or_ge f j with hlt | hge
    · have := (hR.lt hf hsj hlt).2
      have := (hR.fine sj (List.mem_of_getElem? hsj)).2.2
      omega
    · omega
  obtain ⟨e1, e2⟩ := TwinO.step hsrc h.box f hf3 hw
  have hlen : ∀ j, (g j || decide (j = f)) = true → j < H.length := fun j hj => by
    simp only [Bool.or_eq_true, decide_eq_true_eq] at hj
    rcases hj with hj | hj
    · exact h.len j hj
    · omega
  unfold takeF
  cases hg : g f
  · rw [hg] at e1
    rw [e1]
    simp only [Bool.not_false, if_true]
    rcases h.sub with ⟨h1, h2⟩ | ⟨top, s0, h1, h2, h3, h4⟩
    · refine ⟨⟨e2, hlen, .inr ⟨f, s, by simp, fun j hj => by simp only [h1, Bool.false_or, decide_eq_true_eq] at hj; omega, hf, ?_⟩⟩, fun hk => ?_⟩
      · have : takeS x.sub s.m = (accS x.sub s.m 0, 1) := by
          unfold takeS
          rw [h2, if_neg (by rw [hfi.chk, hfi.pub, hfi.rev]; simp [newSub]), if_pos (show (newSub 5 77).known = false from rfl)]
        show SubIs c (takeS x.sub s.m).1 s
        rw [this, h2]
        exact SubIs.acc rfl rfl (by simp [newSub]) hfi htc 0 (by omega)
      · rw [h2] at hk; cases hk
    · have hfi0 := (hR.fine s0 (List.mem_of_getElem? h3)).1
      rcases Nat.lt_trichotomy f top with hlt | heq | hgt
      · obtain ⟨ho, hto⟩ := hR.lt hf h3 hlt
        have hl := h4.left
        have := hfi0.tl
        have hu := take_older h4 hfi0 hfi ho (by omega)
        rw [hu]
        refine ⟨⟨e2, hlen, .inr ⟨top, s0, by simp [h1], fun j hj => ?_, h3, h4⟩⟩, fun hk => ⟨hk, Int.le_refl _⟩⟩
        simp only [Bool.or_eq_true, decide_eq_true_eq] at hj
        rcases hj with hj | hj
        · exact h2 j hj
        · omega
      · subst heq
        rw [h1] at hg; cases hg
      · obtain ⟨ho, _⟩ := hR.lt h3 hf hgt
        obtain ⟨k, hk, hu⟩ := take_newer h4 hfi0 hfi ho
        rw [hu]
        refine ⟨⟨e2, hlen, .inr ⟨f, s, by simp, fun j hj => ?_, hf, SubIs.acc h4.pub h4.rev h4.lo hfi htc k hk⟩⟩, fun _ => ⟨rfl, ?_⟩⟩
        · simp only [Bool.or_eq_true, decide_eq_true_eq] at hj
          rcases hj with hj | hj
          · have := h2 j hj; omega
          · omega
        · have := h4.state
          show x.sub.state ≤ s.m.state
          rcases ho with ho | ⟨ho, _, _⟩ <;> omega
  · rw [hg] at e1
    rw [e1]
    simp only [Bool.not_true, Bool.false_eq_true, if_false]
    refine ⟨⟨e2, hlen, ?_⟩, fun hk => ⟨hk, Int.le_refl _⟩⟩
    have he : ∀ j, (g j || decide (j = f)) = g j := fun j => by
      by_cases hj : j = f
      · subst hj; simp [hg]
      · simp [hj]
    rcases h.sub with ⟨h1, h2⟩ | ⟨top, s0, h1, h2, h3, h4⟩
    · rw [h1 f] at hg; cases hg
    · exact .inr ⟨top, s0, by rw [he]; exact h1, fun j hj => h2 j (by rw [he] at hj; exact hj), h3, h4⟩
end Go.Proofs.Ytimnepfdpehdmaa
