/- The walk of the statement TlvConcatenates. -/
import Derived.Test.YtojiddkaeoifcaaTlvDecodesWalk
import Derived.Test.YtojiddkaeoifcaaTlvQ
import Derived.WalkLawsBesides
namespace Go.Proofs.Ytojiddkaeoifcaa
open Go.RowKit
attribute [local go_sem ↓] Go.wp_at_zero Go.wp_at_succ

/-- Nodes read out of a row of one's own, and the other way round: the cells of nodes as a source of append. -/
theorem World.ownsRow_litN (w : World) (B : Nat) (hB : w.heap.size = B) : (w.alloc (.cells #[] 26)).ownsRow B 26 3 (.slice (some ⟨B, 0, none⟩) 0 0) 0 [] := by
  subst hB
  exact World.ownsRow_lit w #[] 0 (Nat.le_refl _) (by unfold maxLen; omega) rfl
theorem nodes_src {α : Type} {R : Rk α} {w : World} {a : Option Addr} {c : Nat} {l : List (NodeOf α)} (n : Nat) (hn : l.length = n) (h : (nodesRk R).rk Any w (.slice a n c) l) :
    ∃ css : List (List Value), css.length = n ∧ (∀ cs ∈ css, cs.length = 3) ∧ (∀ i (h1 : i < l.length) (h2 : i < css.length), nodeRep R Any w l[i] css[i]) ∧ Src w 3 a n css.flatten := by
  subst hn
  obtain ⟨hn, h0, css, h1, h2, h3, h4⟩ := RS.src (show RS Any 3 (nodeRep R Any) w _ l from h) (by omega)
  refine ⟨css, h1, h2, h3, ⟨by rw [flatten_len css h2, h1], fun e => by rw [h0 e]; rfl, h4, fun u hu => ?_⟩⟩
  obtain ⟨cs, hc, hu⟩ := List.mem_flatten.1 hu
  obtain ⟨i, hi, rfl⟩ := List.getElem_of_mem hc
  obtain ⟨dv, kv, he, hd, hk⟩ := h3 i (by omega) hi
  obtain ⟨_, _, rfl, _⟩ := hd.form
  obtain ⟨_, _, rfl, _⟩ := R.form hk
  rw [he] at hu
  simp only [List.mem_cons, List.not_mem_nil, or_false] at hu
  rcases hu with rfl | rfl | rfl <;> rfl
theorem Src.ext {w w' : World} {size : Nat} {A : Option Addr} {m : Nat} {news : List Value} (h : Src w size A m news) (he : Ext w w') : Src w' size A m news := ⟨h.len, h.none_, fun ad ha j u hu => he.cell (h.cell ad ha j u hu), h.one⟩
theorem nodes_own {α : Type} {R : Rk α} {w0 w : World} {base : Nat} {a : Option Addr} {n1 n2 c : Nat} {l1 l2 : List (NodeOf α)} {c1 c2 : List (List Value)} (h : w.ownsRow base 26 3 (.slice a (n1 + n2) c) (n1 + n2) (c1.flatten ++ c2.flatten)) (hn1 : l1.length = n1) (hn2 : l2.length = n2)
    (h1 : c1.length = n1) (h2 : c2.length = n2) (k1 : ∀ cs ∈ c1, cs.length = 3) (k2 : ∀ cs ∈ c2, cs.length = 3) (he : Ext w0 w)
    (r1 : ∀ i (h1 : i < l1.length) (h2 : i < c1.length), nodeRep R Any w0 l1[i] c1[i]) (r2 : ∀ i (h1 : i < l2.length) (h2 : i < c2.length), nodeRep R Any w0 l2[i] c2[i]) : (nodesRk R).rk Any w (.slice a (n1 + n2) c) (l1 ++ l2) := by
  subst hn1 hn2
  have up : ∀ x cs, nodeRep R Any w0 x cs → nodeRep R Any w x cs := fun x cs ⟨dv, kv, hc, hd, hk⟩ => ⟨dv, kv, hc, hd.ext he, R.ext hk he⟩
  rw [← List.length_append] at h ⊢
  refine RS.of_own (c1 ++ c2) (by rw [List.flatten_append]; exact h) (by simp [h1, h2]) (fun cs hc => ?_) (fun i hi1 hi2 => up _ _ ?_) (fun _ h => h.elim)
  · rcases List.mem_append.1 hc with hc | hc
    · exact k1 cs hc
    · exact k2 cs hc
  · by_cases hi : i < l1.length
    · rw [List.getElem_append_left hi, List.getElem_append_left (by omega)]
      exact r1 i hi (by omega)
    · have e : ∀ (h : i - c1.length < c2.length), c2[i - c1.length] = c2[i - l1.length]'(by omega) := fun _ => by simp only [h1]
      rw [List.getElem_append_right (by omega), List.getElem_append_right (by omega), e]
      exact r2 _ (by simp at hi1; omega) _

set_option maxRecDepth 100000 in
set_option maxHeartbeats 4000000 in
theorem concat_walk (m : Nat) (hm : 6 ≤ m) (a b : List (Nd (m + 1))) (va vb : Value) (w : World) (ha : (RkN (m + 1)).rk Any w va a) (hb : (RkN (m + 1)).rk Any w vb b) (hc : cntN (m + 1) a + cntN (m + 1) b ≤ 1000000000) :
    Calls Try.prog 9 #[va, vb] w fun e w' => e = .returned (.bool true) ∧ Ext w w' := by
  obtain ⟨i0, hi0, hz0, hz1, hz2⟩ := info_parts info_byte
  obtain ⟨j0, hj0, hy0, hy1, hy2⟩ := info_parts info_node
  have hk := Lib.hid (known10_any w)
  have la := Lib.hid (fun w1 (h : Ext w w1) => large_any (m + 1) Any a va w1 ((RkN (m + 1)).ext ha h) (by omega))
  have lb := Lib.hid (fun w1 (h : Ext w w1) => large_any (m + 1) Any b vb w1 ((RkN (m + 1)).ext hb h) (by omega))
  have ea := Lib.hid (fun w1 (h : Ext w w1) => encodeP_any (m + 1) Any a va w1 ((RkN (m + 1)).ext ha h) (by omega))
  have eb := Lib.hid (fun w1 (h : Ext w w1) => encodeP_any (m + 1) Any b vb w1 ((RkN (m + 1)).ext hb h) (by omega))
  have eab := Lib.hid (fun w1 v1 (h : (RkN (m + 1)).rk Any w1 v1 (a ++ b)) => encodeP_any (m + 1) Any (a ++ b) v1 w1 h (by rw [cntN_app]; omega))
  have dd := Lib.hid (fun w1 v1 bs (h1 : RB Any w1 v1 bs) => decodeP_any (m + 1) bs v1 w1 (by omega) h1)
  have ms := Lib.hid (fun w1 u1 v1 (h1 : (RkN (m + 1)).rk Any w1 u1 (a ++ b)) (h2 : (RkN (m + 1)).rk Any w1 v1 (a ++ b)) => (((sameN_iff (m + 1) _ _).2 rfl) ▸ sameP_any (m + 1) _ _ u1 v1 w1 h1 h2 : Calls Try.prog 19 #[u1, v1] w1 fun e w' => e = .returned (.bool true) ∧ Ext w1 w'))
  have hlaw := concat_law m a b
  have hla : a.length ≤ cntN (m + 1) a := Nat.le_add_right _ _
  have hlb : b.length ≤ cntN (m + 1) b := Nat.le_add_right _ _
  have hla2 : a.length + b.length ≤ 1000000000 := by omega
  have HA := Lib.hid ha
  have HB := Lib.hid hb
  obtain ⟨aa, ac, rfl, _, _⟩ := (RkN (m + 1)).form ha
  obtain ⟨ba, bc, rfl, _, _⟩ := (RkN (m + 1)).form hb
  generalize largeN (m + 1) a = xa at *
  generalize largeN (m + 1) b = xb at *
  clear hla hlb hc ha hb
  generalize hna : a.length = na at *
  generalize hnb : b.length = nb at *
  have HNA := Lib.hid hna
  have HNB := Lib.hid hnb
  clear hna hnb
  cases xa
  · cases xb
    · have lX := encOut_le (m + 1) a
      have lY := encOut_le (m + 1) b
      generalize hX : encOut (m + 1) a = X at *
      generalize hY : encOut (m + 1) b = Y at *
      generalize hnX : X.length = nX at *
      generalize hnY : Y.length = nY at *
      have HNX := Lib.hid hnX
      have HNY := Lib.hid hnY
      clear hnX hnY hX hY
      by_cases h1 : encErr (m + 1) a = 0
      · by_cases h2 : encErr (m + 1) b = 0
        · by_cases h3 : nX + nY ≤ 1500
          · obtain ⟨g1, g2, g3⟩ := hlaw h1 h2 h3
            have hb3 : ¬ ((1500 : Int) < (nX : Int) + nY) := by omega
            rw [h1] at ea
            rw [h2] at eb
            rw [g1, g2] at eab
            clear hlaw h1 h2 g1 g2
            go_enter Try.func9, Try.ntmps9
            go_wp2_with fail
            refine hk.out.mono ?_
            rintro e w1 ⟨rfl, x1⟩
            go_wp2_with fail
            refine (la.out _ x1).mono ?_
            rintro e w2 ⟨rfl, he2⟩
            have x2 := x1.trans he2
            clear he2
            go_wp2_with fail
            refine (lb.out _ x2).mono ?_
            rintro e w3 ⟨rfl, he3⟩
            have x3 := x2.trans he3
            clear he3
            go_wp2_with fail
            refine (ea.out _ x3).mono ?_
            rintro e w4 ⟨a4, c4, he, he4, hr4⟩
            rw [HNX.out] at he hr4
            subst he
            have x4 := x3.trans he4
            have q4 := hr4 Any (fun _ h => h.elim)
            clear he4 hr4
            go_wp2_with fail
            refine (eb.out _ x4).mono ?_
            rintro e w5 ⟨a5, c5, he, he5, hr5⟩
            rw [HNY.out] at he hr5
            subst he
            have x5 := x4.trans he5
            have Q4 := Lib.hid (q4.ext he5)
            have Q5 := Lib.hid (hr5 Any (fun _ h => h.elim))
            clear he5 hr5 q4
            obtain ⟨ca, a1, a2, a3, SA⟩ := nodes_src na HNA.out (show (nodesRk (RkN m)).rk Any w5 (.slice aa na ac) a from (RkN (m + 1)).ext HA.out x5)
            obtain ⟨cb, b1, b2, b3, SB⟩ := nodes_src nb HNB.out (show (nodesRk (RkN m)).rk Any w5 (.slice ba nb bc) b from (RkN (m + 1)).ext HB.out x5)
            have SA2 := Lib.hid (SA.ext ((Ext.refl w5).alloc (.cells #[] 26)))
            have SB2 := Lib.hid SB
            have HO0 := Lib.hid (World.ownsRow_litN w5 w5.heap.size rfl)
            have HOW := Lib.hid (fun (w' : World) (A : Option Addr) (C : Nat) (hw : w'.ownsRow w5.heap.size 26 3 (.slice A (na + nb) C) (na + nb) (ca.flatten ++ cb.flatten)) (he : Ext w5 w') => (nodes_own hw HNA.out HNB.out a1 b1 a2 b2 he a3 b3 : (RkN (m + 1)).rk Any w' (.slice A (na + nb) C) (a ++ b)))
            clear SA SB a1 a2 a3 b1 b2 b3
            generalize ca.flatten = fa at *
            generalize cb.flatten = fb at *
            go_wp2_with (first
              | (at_builtin; refine wpList_append_src _ rfl (.tmp 46) (.tmp 47) _ rfl w5.heap.size 26 j0 _ 3 56 Try.underlying24 hj0 hy0 hy1 hy2 rfl (by omega) _ 0 [] rfl HO0.out _ na ac _ rfl SA2.out (by unfold maxLen; omega) (by omega) (by simp) ?_; intro A6 c6 w6 hown6 hg6 hat6; have he6 : Ext w5 w6 := ((Ext.refl w5).alloc _).grown hg6 (fun g hg => (HO0.out.lt g hg).1); simp only [Nat.zero_add, List.nil_append] at hown6 hat6; have HO6 := Lib.hid hown6; clear hown6 hg6 hat6)
              | (at_builtin; refine wpList_append_src _ rfl (.tmp 48) (.tmp 49) _ rfl w5.heap.size 26 j0 _ 3 56 Try.underlying24 hj0 hy0 hy1 hy2 rfl (by omega) _ na _ rfl HO6.out _ nb bc _ rfl (SB2.out.ext he6) (by unfold maxLen; omega) (by omega) he6.size ?_; intro A7 c7 w7 hown7 hg7 hat7; have he7 : Ext w5 w7 := he6.grown hg7 (fun g hg => (HO6.out.lt g hg).1); have HO7 := Lib.hid hown7; clear hown7 hg7 hat7))
            have HR7 := Lib.hid (HOW.out _ _ _ HO7.out he7)
            have x7 := x5.trans he7
            have HNXY := Lib.hid (show (X ++ Y).length = nX + nY by rw [List.length_append, HNX.out, HNY.out])
            clear HO6 HO7 HOW HO0 SA2 SB2
            refine (eab.out _ _ HR7.out).mono ?_
            rintro e w8 ⟨a8, c8, he, he8, hr8⟩
            rw [HNXY.out] at he hr8
            subst he
            have x8 := x7.trans he8
            have he58 := he7.trans he8
            have S4 := Lib.hid (Src.bytes ((Q4.out.ext he58).ext ((Ext.refl _).alloc (.cells #[] 5))))
            have S5 := Lib.hid (Src.bytes (Q5.out.ext he58))
            have HP0 := Lib.hid (World.ownsRow_litB w8 w8.heap.size rfl)
            have Q8 := Lib.hid (hr8 Any (fun _ h => h.elim))
            have BY := Lib.hid (Q4.out.byt.append Q5.out.byt)
            have HMM := Lib.hid (show (X ++ Y).map (Value.int .u8) = X.map (Value.int .u8) ++ Y.map (Value.int .u8) by simp)
            have DD := Lib.hid (fun w1 v1 (h1 : RB Any w1 v1 (X ++ Y)) => dd.out w1 v1 _ h1)
            rw [g3] at DD
            clear g3 hr8
            generalize X.map (Value.int .u8) = mX at *
            generalize Y.map (Value.int .u8) = mY at *
            go_wp2_with (first
              | (at_builtin; refine wpList_append_src _ rfl (.tmp 57) (.tmp 58) _ rfl w8.heap.size 5 i0 _ 1 1 Try.underlying22 hi0 hz0 hz1 hz2 rfl (by omega) _ 0 [] rfl HP0.out _ nX c4 _ rfl S4.out (by unfold maxLen; omega) (by omega) (by simp) ?_; intro A9 c9 w9 hown9 hg9 hat9; have he9 : Ext w8 w9 := ((Ext.refl w8).alloc _).grown hg9 (fun g hg => (HP0.out.lt g hg).1); simp only [Nat.zero_add, List.nil_append] at hown9 hat9; have HP9 := Lib.hid hown9; clear hown9 hg9 hat9)
              | (at_builtin; refine wpList_append_src _ rfl (.tmp 59) (.tmp 60) _ rfl w8.heap.size 5 i0 _ 1 1 Try.underlying22 hi0 hz0 hz1 hz2 rfl (by omega) _ nX _ rfl HP9.out _ nY c5 _ rfl (S5.out.ext he9) (by unfold maxLen; omega) (by omega) he9.size ?_; intro A10 c10 w10 hown10 hg10 hat10; have he10 : Ext w8 w10 := he9.grown hg10 (fun g hg => (HP9.out.lt g hg).1); have HP10 := Lib.hid hown10; clear hown10 hg10 hat10))
            have hRB : RB Any w10 (.slice A10 (nX + nY) c10) (X ++ Y) := by
              have := HP10.out
              rw [← HMM.out, ← HNXY.out] at this
              have h2 := RB.of_own (V := Any) this BY.out (fun _ h => h.elim)
              rwa [HNXY.out] at h2
            refine (DD.out _ _ hRB).mono ?_
            rintro e w11 ⟨a11, c11, rfl, he11, hr11⟩
            have Q11 := hr11 Any (fun _ h => h.elim)
            have he811 := he10.trans he11
            have x11 := x8.trans he811
            have q1 := (Q8.out.ext he811).conv (P := Try.prog) 22 9 5 Try.underlying22 Try.underlying5 Try.underlying9
            have q2 := (Q4.out.ext (he58.trans he811)).conv (P := Try.prog) 22 9 5 Try.underlying22 Try.underlying5 Try.underlying9
            have q3 := (Q5.out.ext (he58.trans he811)).conv (P := Try.prog) 22 9 5 Try.underlying22 Try.underlying5 Try.underlying9
            have q4 : strOfNums (X ++ Y) = strOfNums X ++ strOfNums Y := by
              apply ByteArray.ext
              apply Array.ext'
              simp [strOfNums]
            have q5 : ¬ 9223372036854775807 < (strOfNums X).size + (strOfNums Y).size := by rw [strOfNums_size, strOfNums_size, HNX.out, HNY.out]; omega
            rw [q4] at q1
            clear q4
            generalize strOfNums X = s2 at *
            generalize strOfNums Y = s3 at *
            have MS := Lib.hid (ms.out _ _ _ Q11 ((RkN (m + 1)).ext HR7.out (he8.trans he811)))
            generalize (a ++ b).length = nab at *
            clear hr11 Q11 hRB
            go_wp2_with fail
            refine MS.out.mono ?_
            rintro e w12 ⟨rfl, he12⟩
            go_wp2_with fail
            go_ret
            exact ⟨rfl, x11.trans he12⟩
          · have hb3 : (1500 : Int) < (nX : Int) + nY := by omega
            rw [h1] at ea
            rw [h2] at eb
            clear hlaw h1 h2
            go_enter Try.func9, Try.ntmps9
            go_wp2_with fail
            refine hk.out.mono ?_
            rintro e w1 ⟨rfl, x1⟩
            go_wp2_with fail
            refine (la.out _ x1).mono ?_
            rintro e w2 ⟨rfl, he2⟩
            have x2 := x1.trans he2
            clear he2
            go_wp2_with fail
            refine (lb.out _ x2).mono ?_
            rintro e w3 ⟨rfl, he3⟩
            have x3 := x2.trans he3
            clear he3
            go_wp2_with fail
            refine (ea.out _ x3).mono ?_
            rintro e w4 ⟨a4, c4, he, he4, hr4⟩
            rw [HNX.out] at he hr4
            subst he
            have x4 := x3.trans he4
            clear he4 hr4
            go_wp2_with fail
            refine (eb.out _ x4).mono ?_
            rintro e w5 ⟨a5, c5, he, he5, hr5⟩
            rw [HNY.out] at he hr5
            subst he
            have x5 := x4.trans he5
            clear he5 hr5
            go_wp2_with fail
            go_ret
            exact ⟨rfl, x5⟩
        · have h2' : (encErr (m + 1) b != 0) = true := by simpa using h2
          rw [h1] at ea
          generalize encErr (m + 1) b = er at *
          clear hlaw h1 h2
          go_enter Try.func9, Try.ntmps9
          go_wp2_with fail
          refine hk.out.mono ?_
          rintro e w1 ⟨rfl, x1⟩
          go_wp2_with fail
          refine (la.out _ x1).mono ?_
          rintro e w2 ⟨rfl, he2⟩
          have x2 := x1.trans he2
          clear he2
          go_wp2_with fail
          refine (lb.out _ x2).mono ?_
          rintro e w3 ⟨rfl, he3⟩
          have x3 := x2.trans he3
          clear he3
          go_wp2_with fail
          refine (ea.out _ x3).mono ?_
          rintro e w4 ⟨a4, c4, he, he4, hr4⟩
          rw [HNX.out] at he hr4
          subst he
          have x4 := x3.trans he4
          clear he4 hr4
          go_wp2_with fail
          refine (eb.out _ x4).mono ?_
          rintro e w5 ⟨a5, c5, he, he5, hr5⟩
          rw [HNY.out] at he hr5
          subst he
          have x5 := x4.trans he5
          clear he5 hr5
          go_wp2_with fail
          go_ret
          exact ⟨rfl, x5⟩
      · have h1' : (encErr (m + 1) a != 0) = true := by simpa using h1
        generalize encErr (m + 1) a = er at *
        generalize encErr (m + 1) b = er2 at *
        clear hlaw h1
        go_enter Try.func9, Try.ntmps9
        go_wp2_with fail
        refine hk.out.mono ?_
        rintro e w1 ⟨rfl, x1⟩
        go_wp2_with fail
        refine (la.out _ x1).mono ?_
        rintro e w2 ⟨rfl, he2⟩
        have x2 := x1.trans he2
        clear he2
        go_wp2_with fail
        refine (lb.out _ x2).mono ?_
        rintro e w3 ⟨rfl, he3⟩
        have x3 := x2.trans he3
        clear he3
        go_wp2_with fail
        refine (ea.out _ x3).mono ?_
        rintro e w4 ⟨a4, c4, he, he4, hr4⟩
        rw [HNX.out] at he hr4
        subst he
        have x4 := x3.trans he4
        clear he4 hr4
        go_wp2_with fail
        refine (eb.out _ x4).mono ?_
        rintro e w5 ⟨a5, c5, he, he5, hr5⟩
        rw [HNY.out] at he hr5
        subst he
        have x5 := x4.trans he5
        clear he5 hr5
        go_wp2_with fail
        go_ret
        exact ⟨rfl, x5⟩
    · clear hlaw
      go_enter Try.func9, Try.ntmps9
      go_wp2_with fail
      refine hk.out.mono ?_
      rintro e w1 ⟨rfl, x1⟩
      go_wp2_with fail
      refine (la.out _ x1).mono ?_
      rintro e w2 ⟨rfl, he2⟩
      have x2 := x1.trans he2
      clear he2
      go_wp2_with fail
      refine (lb.out _ x2).mono ?_
      rintro e w3 ⟨rfl, he3⟩
      have x3 := x2.trans he3
      clear he3
      go_wp2_with fail
      go_ret
      exact ⟨rfl, x3⟩
  · clear hlaw
    go_enter Try.func9, Try.ntmps9
    go_wp2_with fail
    refine hk.out.mono ?_
    rintro e w1 ⟨rfl, x1⟩
    go_wp2_with fail
    refine (la.out _ x1).mono ?_
    rintro e w2 ⟨rfl, he2⟩
    have x2 := x1.trans he2
    clear he2
    go_wp2_with fail
    go_ret
    exact ⟨rfl, x2⟩
end Go.Proofs.Ytojiddkaeoifcaa
