/- The contract of Nodes: layer 11. -/
import Derived.Test.YtjaofbfppnmdjaaDatB
import Derived.Test.YtjaofbfppnmdjaaMsgA
import Derived.Test.YtjaofbfppnmdjaaTlvG
namespace Go.Proofs.Ytjaofbfppnmdjaa
open Go.RowKit
attribute [local go_sem ↓] Go.wp_at_zero Go.wp_at_succ

/-- The node of a value. -/
def nodeV (m : Nat) (v : Val) : NodeOf (Nd m) := (tagV v, datV v, [])
def RetNE (m : Nat) (w : World) (l : List Val) (e : Ending) (w' : World) : Prop :=
  (vErr l ≠ 0 ∧ e = .returned (.tuple #[.slice none 0 0, .int .i64 (vErr l)]) ∧ Ext w w') ∨ (vErr l = 0 ∧ ∃ a c, e = .returned (.tuple #[.slice a l.length c, .int .i64 0]) ∧ Ext w w' ∧ (nodesRk (RkN m)).rk (Old w) w' (.slice a l.length c) (l.map (nodeV m)))
/-- The same, with the row that is owned. -/
def RetNB (m : Nat) (w : World) (l : List Val) (e : Ending) (w' : World) : Prop :=
  (vErr l ≠ 0 ∧ e = .returned (.tuple #[.slice none 0 0, .int .i64 (vErr l)]) ∧ Ext w w') ∨ (vErr l = 0 ∧ ∃ a c, e = .returned (.tuple #[.slice a l.length c, .int .i64 0]) ∧ Ext w w' ∧ Built (RkN m) (Old w) w.heap.size 45 w' (.slice a l.length c) (l.map (nodeV m)))
theorem info_nodeP : (Try.prog.info? 45).map (fun i => (i.zero, i.size, i.bytes)) = some (some (.agg #[.int .i64 0, .slice none 0 0, .slice none 0 0]), 3, 56) := by kernel_rfl
theorem chk_kind {v : Val} (h : chk v = 0) : isKind v = true := by
  unfold chk at h
  simp only [isKind, Bool.and_eq_true, decide_eq_true_eq]
  by_cases h1 : v.kind = 1
  · omega
  by_cases h2 : v.kind = 2
  · omega
  by_cases h3 : v.kind = 3
  · omega
  by_cases h4 : v.kind = 4
  · omega
  by_cases h5 : v.kind = 5
  · omega
  rw [if_neg h1, if_neg h2, if_neg h3, if_neg h4, if_neg h5] at h
  omega
theorem chk_size {v : Val} (h : chk v = 0) : (v.kind = 3 → v.s.size ≤ 64) ∧ (v.kind = 4 → v.s.size ≤ 64) := by
  unfold chk at h
  constructor
  · intro h3
    rw [if_neg (by omega), if_neg (by omega), if_pos h3] at h
    split at h
    · unfold bitErr at h
      split at h
      · omega
      · omega
    · omega
  · intro h4
    rw [if_neg (by omega), if_neg (by omega), if_neg (by omega), if_pos h4] at h
    split at h
    · split at h <;> omega
    · omega
@[local go_sem] theorem methT_truth (x : Value) (w : World) : (method 257 123 x "substation/dataset.tag").run Try.prog w = .ok (108, x) w := by kernel_rfl
@[local go_sem] theorem methD_truth (x : Value) (w : World) : (method 257 123 x "substation/dataset.data").run Try.prog w = .ok (107, x) w := by kernel_rfl
@[local go_sem] theorem methT_whole (x : Value) (w : World) : (method 257 124 x "substation/dataset.tag").run Try.prog w = .ok (111, x) w := by kernel_rfl
@[local go_sem] theorem methD_whole (x : Value) (w : World) : (method 257 124 x "substation/dataset.data").run Try.prog w = .ok (110, x) w := by kernel_rfl
@[local go_sem] theorem methT_bits (x : Value) (w : World) : (method 257 125 x "substation/dataset.tag").run Try.prog w = .ok (115, x) w := by kernel_rfl
@[local go_sem] theorem methD_bits (x : Value) (w : World) : (method 257 125 x "substation/dataset.data").run Try.prog w = .ok (114, x) w := by kernel_rfl
@[local go_sem] theorem methT_text (x : Value) (w : World) : (method 257 126 x "substation/dataset.tag").run Try.prog w = .ok (118, x) w := by kernel_rfl
@[local go_sem] theorem methD_text (x : Value) (w : World) : (method 257 126 x "substation/dataset.data").run Try.prog w = .ok (117, x) w := by kernel_rfl
@[local go_sem] theorem methT_moment (x : Value) (w : World) : (method 257 127 x "substation/dataset.tag").run Try.prog w = .ok (121, x) w := by kernel_rfl
@[local go_sem] theorem methD_moment (x : Value) (w : World) : (method 257 127 x "substation/dataset.data").run Try.prog w = .ok (120, x) w := by kernel_rfl
theorem datV_len (v : Val) (h : chk v = 0) : (datV v).length ≤ 72 := by
  have h2 := chk_size h
  unfold datV
  split
  · rw [numB_len]; omega
  split
  · rw [numB_len]; have := intLen_le v.n; omega
  split
  · rename_i h3; rw [bitsB_len]; have := h2.1 h3; omega
  split
  · rename_i h4; rw [strB_len]; have := h2.2 h4; omega
  · simp [numB_len]
theorem vErr_take {l : List Val} {k : Nat} {x : Val} (h : vErr (l.take k) = 0) (hx : l[k]? = some x) : vErr (l.take (k + 1)) = chk x := by
  induction l generalizing k with
  | nil => simp at hx
  | cons y l ih =>
    cases k with
    | zero =>
      simp only [List.getElem?_cons_zero, Option.some.injEq] at hx
      subst hx
      simp only [List.take_succ_cons, List.take_zero, vErr]
      split
      · rename_i h0; exact h0.symm
      · rfl
    | succ k =>
      simp only [List.getElem?_cons_succ] at hx
      simp only [List.take_succ_cons, vErr] at h ⊢
      split at h
      · rename_i h0; rw [if_pos h0]; exact ih h hx
      · rename_i h0; exact absurd h h0
theorem vErr_of_take : ∀ (l : List Val) (k : Nat), vErr (l.take k) ≠ 0 → vErr l = vErr (l.take k)
  | [], _, h => by simp [vErr] at h
  | y :: l, 0, h => by simp [vErr] at h
  | y :: l, k + 1, h => by
    simp only [List.take_succ_cons, vErr] at h ⊢
    split
    · rename_i h0; rw [if_pos h0] at h; exact vErr_of_take l k h
    · rfl
set_option maxRecDepth 100000 in
set_option maxHeartbeats 8000000 in
theorem nodesP_own {V : Nat → Prop} (m : Nat) (l : List Val) (v : Value) (w : World) (h : RF V 6 valE w v l) (hl : l.length ≤ 1000000) : Calls Try.prog 20 #[v] w (RetNB m w l) := by
  obtain ⟨i0, hi0, hz0, hz1, hz2⟩ := info_parts info_nodeP
  obtain ⟨a, c, rfl, hc1, hc2⟩ := h.form
  have HH := Lib.hid h
  have HER : Hid (∀ (k : Nat) x w', l[k]? = some x → vErr (l.take k) = 0 → chk x ≠ 0 → Ext w w' → RetNB m w l (.returned (.tuple #[.slice none 0 0, .int .i64 (chk x)])) w') := fun k x w' hx h0 hc he => by
    have h1 := vErr_take h0 hx
    have h2 := vErr_of_take l (k + 1) (by rw [h1]; exact hc)
    exact .inl ⟨by rw [h2, h1]; exact hc, by rw [h2, h1], he⟩
  have HOKE : Hid (∀ w' a' c', vErr l = 0 → Ext w w' → Built (RkN m) (Old w) w.heap.size 45 w' (.slice a' l.length c') (l.map (nodeV m)) → RetNB m w l (.returned (.tuple #[.slice a' l.length c', .int .i64 0])) w') := fun w' a' c' h0 he hr => .inr ⟨h0, a', c', rfl, he, hr⟩
  obtain ⟨n, hn⟩ : ∃ n, l.length = n := ⟨_, rfl⟩
  have HN := Lib.hid hn
  rw [hn] at hc1 hl HOKE ⊢
  clear h hc2 hn
  go_enter Try.func20, Try.ntmps20
  go_wp2_with (at_make; refine wpList_make_own _ rfl _ _ 32 rfl w.heap.size 45 i0 _ 3 Try.underlying32 hi0 hz0 hz1 _ _ _ n rfl rfl (by omega) (by rw [hz2]; omega) (by unfold maxLen; omega) (Nat.le_refl _) ?_; intro w2 hown2 hg2; have he2 := (Ext.refl w).trans (ext_of_grown hg2))
  have HB0 : Hid (Built (RkN m) (Old w) w.heap.size 45 w2 (.slice (some ⟨w.heap.size, 0, none⟩) 0 n) []) := by first | exact ⟨[], hown2, rfl, fun _ h => (by simp at h), fun i h _ => (by simp at h)⟩
  clear hown2 hg2
  go_loopw [4, 15] (fun o i wr => ∃ (k : Nat), k ≤ n ∧ i = .int .i64 k ∧ Built (RkN m) (Old w) w.heap.size 45 wr o ((l.take k).map (nodeV m)) ∧ vErr (l.take k) = 0 ∧ Ext w wr) (fun _ i _ => n - (intOf i).toNat)
  case atStart => exact ⟨0, by omega, rfl, HB0.out, rfl, he2⟩
  case round =>
    obtain ⟨k, hk, rfl, hbuilt, hok, hx⟩ := hrel
    by_cases hlt : k < n
    · obtain ⟨xv, hxv⟩ : ∃ x, l[k]? = some x := ⟨_, List.getElem?_eq_getElem (by rw [HN.out]; exact hlt)⟩
      obtain ⟨b, off, c', hv, g0, g1, g2, g3, g4, g5⟩ := val_get (HH.out.ext hx) hxv
      rw [HN.out] at hv
      simp only [Value.slice.injEq] at hv
      obtain ⟨rfl, -, rfl⟩ := hv
      have hki : (k : Int) < n := by omega
      have HCK := Lib.hid (fun w1 => checkV_any xv w1)
      have HX := Lib.hid hx
      by_cases hck : chk xv = 0
      · have hkn := chk_kind hck
        have HSZ := Lib.hid (chk_size hck)
        have hdl0 := datV_len xv hck
        have HC := Lib.hid (fun w1 => contentOf_yes xv w1 hkn)
        have HOKN : Hid (vErr (l.take (k + 1)) = 0) := (vErr_take hok hxv).trans hck
        have HTK : Hid (l.take (k + 1) = l.take k ++ [xv]) := by show l.take (k + 1) = _; rw [List.take_add_one, hxv]; rfl
        rw [hck] at HCK
        obtain ⟨css, hown, hlen, h3, hrep⟩ := hbuilt
        have hlk : ((l.take k).map (nodeV m)).length = k := by simp; have := HN.out; omega
        rw [hlk] at hown
        have HLK := Lib.hid hlk
        have HVR := Lib.hid (With.lt (V := Old w) (fun g hg => hx.lt hg) hown)
        have HL := Lib.hid hlen
        have H3 := Lib.hid h3
        have HR := Lib.hid hrep
        have HO := Lib.hid hown
        clear hlk hlen h3 hrep hown hok hx hck hxv HER
        obtain ⟨vk, vn, vs, va, vb, vc⟩ := xv
        simp only at *
        simp only [isKind, Bool.and_eq_true, decide_eq_true_eq] at hkn
        have HDL : Hid (∀ i : Int, vk = i → (datV ⟨i, vn, vs, va, vb, vc⟩).length ≤ 72) := fun i hi => by subst hi; exact hdl0
        clear hdl0
        go_upto_region 5 with fail
        have hW : Ext wr (wr.alloc (.cells #[.int .i64 vk, .int .i64 vn, .string vs, .int .i64 va, .int .i64 vb, .int .i64 vc] 43)) := (Ext.refl wr).alloc _
        have BV := Bk.new wr #[.int .i64 vk, .int .i64 vn, .string vs, .int .i64 va, .int .i64 vb, .int .i64 vc] 43 wr.heap.size rfl
        generalize wr.alloc (.cells #[.int .i64 vk, .int .i64 vn, .string vs, .int .i64 va, .int .i64 vb, .int .i64 vc] 43) = w1 at *
        have q1 : ∀ j, w1.cell? ⟨wr.heap.size, j, none⟩ = (#[.int .i64 vk, .int .i64 vn, .string vs, .int .i64 va, .int .i64 vb, .int .i64 vc] : Array Value)[j]? := BV.cell
        go_wp2_with fail
        refine (HCK.out _).mono ?_
        rintro e w2 ⟨rfl, x2⟩
        have q2 : ∀ j, w2.cell? ⟨wr.heap.size, j, none⟩ = (#[.int .i64 vk, .int .i64 vn, .string vs, .int .i64 va, .int .i64 vb, .int .i64 vc] : Array Value)[j]? := (BV.ext x2).cell
        have E2 : Ext wr w2 := hW.trans x2
        clear q1 g0 g1 g2 g3 g4 g5 BV x2 hW HCK
        obtain hkd | hkd | hkd | hkd | hkd : vk = 1 ∨ vk = 2 ∨ vk = 3 ∨ vk = 4 ∨ vk = 5 := by omega
        · subst hkd
          rw [contV_1 _ rfl] at HC
          simp only at HC
          have HT : Hid (tagV ⟨1, vn, vs, va, vb, vc⟩ = 131) := rfl
          have HDV := Lib.hid (fun w1 => (dataTruth_any vn w1))
          have HDE : Hid (datV ⟨1, vn, vs, va, vb, vc⟩ = numB vn 1) := rfl
          rw [← HDE.out] at HDV
          have HNX : Hid (nodeV m ⟨1, vn, vs, va, vb, vc⟩ = (131, datV ⟨1, vn, vs, va, vb, vc⟩, [])) := rfl
          generalize datV ⟨1, vn, vs, va, vb, vc⟩ = D at *
          go_wp2_with fail
          refine (HC.out _).mono ?_
          rintro e w3 ⟨rfl, x3⟩
          go_wp2_with fail
          refine (tagTruth_any _ _).mono ?_
          rintro e w4 ⟨rfl, rfl⟩
          go_wp2_with fail
          refine (HDV.out _).mono ?_
          rintro e w5 ⟨a5, c5, rfl, x5, r5⟩
          have E5 : Ext wr w5 := (E2.trans x3).trans x5
          have R5 := Lib.hid (r5 (With (Old w) u4) (fun g hg => (E2.trans x3).lt (HVR.out g hg)))
          have hdl := HDL.out 1 rfl
          clear r5 x3 x5 E2
          generalize hDl : D.length = dl at *
          have HDl := Lib.hid hDl
          clear hDl
          go_wp2_with (at_builtin; refine wpList_append_src _ rfl (.tmp 31) (.tmp 37) _ rfl w.heap.size 45 i0 _ 3 56 Try.underlying32 hi0 hz0 hz1 hz2 rfl (by omega) u4 k css.flatten rfl ((own_ext HO.out E5).alloc _) _ 1 1 [.int .i64 131, .slice a5 dl c5, .slice none 0 0] rfl (Src.litB _ #[.int .i64 131, .slice a5 dl c5, .slice none 0 0] _ 3 _ (by simp) rfl (by simp [Value.oneCell'])) (by unfold maxLen; omega) (by omega) (by simp; exact Nat.le_succ_of_le (HX.out.trans E5).size) ?_; intro A6 c6 w6 hown6 hg6 hat6)
          have HB2 := Lib.hid (Built.push (w := wr) (x := nodeV m ⟨1, vn, vs, va, vb, vc⟩) HL.out H3.out HR.out (cs := [.int .i64 131, .slice a5 dl c5, .slice none 0 0]) rfl (E5.alloc _)
            (by rw [HNX.out]; exact ⟨_, _, rfl, R5.out.ext ((Ext.refl _).alloc _), rk_nil m _ _⟩) (by rw [HLK.out]; exact hown6) hg6 hat6)
          have hx6 : Ext w w6 := (HX.out.trans (E5.alloc _)).grown hg6 (fun g hg => (HO.out.lt g hg).1)
          clear hown6 hg6 hat6 E5
          go_wp2_with fail
          go_roundw
          case rel => exact ⟨k + 1, by omega, by go_num, by rw [HTK.out, List.map_append]; exact HB2.out, HOKN.out, hx6⟩
          case measure => simp [intOf]; omega
        · subst hkd
          rw [contV_2 _ rfl] at HC
          simp only at HC
          have HT : Hid (tagV ⟨2, vn, vs, va, vb, vc⟩ = 133) := rfl
          have HDV := Lib.hid (fun w1 => (dataWhole_any vn w1))
          have HDE : Hid (datV ⟨2, vn, vs, va, vb, vc⟩ = numB vn (intLen vn)) := rfl
          rw [← HDE.out] at HDV
          have HNX : Hid (nodeV m ⟨2, vn, vs, va, vb, vc⟩ = (133, datV ⟨2, vn, vs, va, vb, vc⟩, [])) := rfl
          generalize datV ⟨2, vn, vs, va, vb, vc⟩ = D at *
          go_wp2_with fail
          refine (HC.out _).mono ?_
          rintro e w3 ⟨rfl, x3⟩
          go_wp2_with fail
          refine (tagWhole_any _ _).mono ?_
          rintro e w4 ⟨rfl, rfl⟩
          go_wp2_with fail
          refine (HDV.out _).mono ?_
          rintro e w5 ⟨a5, c5, rfl, x5, r5⟩
          have E5 : Ext wr w5 := (E2.trans x3).trans x5
          have R5 := Lib.hid (r5 (With (Old w) u4) (fun g hg => (E2.trans x3).lt (HVR.out g hg)))
          have hdl := HDL.out 2 rfl
          clear r5 x3 x5 E2
          generalize hDl : D.length = dl at *
          have HDl := Lib.hid hDl
          clear hDl
          go_wp2_with (at_builtin; refine wpList_append_src _ rfl (.tmp 31) (.tmp 37) _ rfl w.heap.size 45 i0 _ 3 56 Try.underlying32 hi0 hz0 hz1 hz2 rfl (by omega) u4 k css.flatten rfl ((own_ext HO.out E5).alloc _) _ 1 1 [.int .i64 133, .slice a5 dl c5, .slice none 0 0] rfl (Src.litB _ #[.int .i64 133, .slice a5 dl c5, .slice none 0 0] _ 3 _ (by simp) rfl (by simp [Value.oneCell'])) (by unfold maxLen; omega) (by omega) (by simp; exact Nat.le_succ_of_le (HX.out.trans E5).size) ?_; intro A6 c6 w6 hown6 hg6 hat6)
          have HB2 := Lib.hid (Built.push (w := wr) (x := nodeV m ⟨2, vn, vs, va, vb, vc⟩) HL.out H3.out HR.out (cs := [.int .i64 133, .slice a5 dl c5, .slice none 0 0]) rfl (E5.alloc _)
            (by rw [HNX.out]; exact ⟨_, _, rfl, R5.out.ext ((Ext.refl _).alloc _), rk_nil m _ _⟩) (by rw [HLK.out]; exact hown6) hg6 hat6)
          have hx6 : Ext w w6 := (HX.out.trans (E5.alloc _)).grown hg6 (fun g hg => (HO.out.lt g hg).1)
          clear hown6 hg6 hat6 E5
          go_wp2_with fail
          go_roundw
          case rel => exact ⟨k + 1, by omega, by go_num, by rw [HTK.out, List.map_append]; exact HB2.out, HOKN.out, hx6⟩
          case measure => simp [intOf]; omega
        · subst hkd
          rw [contV_3 _ rfl] at HC
          simp only at HC
          have HT : Hid (tagV ⟨3, vn, vs, va, vb, vc⟩ = 132) := rfl
          have HDV := Lib.hid (fun w1 => (dataBits_any vs w1 (HSZ.out.1 rfl)))
          have HDE : Hid (datV ⟨3, vn, vs, va, vb, vc⟩ = bitsB vs) := rfl
          rw [← HDE.out] at HDV
          have HNX : Hid (nodeV m ⟨3, vn, vs, va, vb, vc⟩ = (132, datV ⟨3, vn, vs, va, vb, vc⟩, [])) := rfl
          generalize datV ⟨3, vn, vs, va, vb, vc⟩ = D at *
          go_wp2_with fail
          refine (HC.out _).mono ?_
          rintro e w3 ⟨rfl, x3⟩
          go_wp2_with fail
          refine (tagBits_any _ _).mono ?_
          rintro e w4 ⟨rfl, rfl⟩
          go_wp2_with fail
          refine (HDV.out _).mono ?_
          rintro e w5 ⟨a5, c5, rfl, x5, r5⟩
          have E5 : Ext wr w5 := (E2.trans x3).trans x5
          have R5 := Lib.hid (r5 (With (Old w) u4) (fun g hg => (E2.trans x3).lt (HVR.out g hg)))
          have hdl := HDL.out 3 rfl
          clear r5 x3 x5 E2
          generalize hDl : D.length = dl at *
          have HDl := Lib.hid hDl
          clear hDl
          go_wp2_with (at_builtin; refine wpList_append_src _ rfl (.tmp 31) (.tmp 37) _ rfl w.heap.size 45 i0 _ 3 56 Try.underlying32 hi0 hz0 hz1 hz2 rfl (by omega) u4 k css.flatten rfl ((own_ext HO.out E5).alloc _) _ 1 1 [.int .i64 132, .slice a5 dl c5, .slice none 0 0] rfl (Src.litB _ #[.int .i64 132, .slice a5 dl c5, .slice none 0 0] _ 3 _ (by simp) rfl (by simp [Value.oneCell'])) (by unfold maxLen; omega) (by omega) (by simp; exact Nat.le_succ_of_le (HX.out.trans E5).size) ?_; intro A6 c6 w6 hown6 hg6 hat6)
          have HB2 := Lib.hid (Built.push (w := wr) (x := nodeV m ⟨3, vn, vs, va, vb, vc⟩) HL.out H3.out HR.out (cs := [.int .i64 132, .slice a5 dl c5, .slice none 0 0]) rfl (E5.alloc _)
            (by rw [HNX.out]; exact ⟨_, _, rfl, R5.out.ext ((Ext.refl _).alloc _), rk_nil m _ _⟩) (by rw [HLK.out]; exact hown6) hg6 hat6)
          have hx6 : Ext w w6 := (HX.out.trans (E5.alloc _)).grown hg6 (fun g hg => (HO.out.lt g hg).1)
          clear hown6 hg6 hat6 E5
          go_wp2_with fail
          go_roundw
          case rel => exact ⟨k + 1, by omega, by go_num, by rw [HTK.out, List.map_append]; exact HB2.out, HOKN.out, hx6⟩
          case measure => simp [intOf]; omega
        · subst hkd
          rw [contV_4 _ rfl] at HC
          simp only at HC
          have HT : Hid (tagV ⟨4, vn, vs, va, vb, vc⟩ = 138) := rfl
          have HDV := Lib.hid (fun w1 => (dataText_any vs w1 (Nat.le_trans (HSZ.out.2 rfl) (by omega))))
          have HDE : Hid (datV ⟨4, vn, vs, va, vb, vc⟩ = strB vs) := rfl
          rw [← HDE.out] at HDV
          have HNX : Hid (nodeV m ⟨4, vn, vs, va, vb, vc⟩ = (138, datV ⟨4, vn, vs, va, vb, vc⟩, [])) := rfl
          generalize datV ⟨4, vn, vs, va, vb, vc⟩ = D at *
          go_wp2_with fail
          refine (HC.out _).mono ?_
          rintro e w3 ⟨rfl, x3⟩
          go_wp2_with fail
          refine (tagText_any _ _).mono ?_
          rintro e w4 ⟨rfl, rfl⟩
          go_wp2_with fail
          refine (HDV.out _).mono ?_
          rintro e w5 ⟨a5, c5, rfl, x5, r5⟩
          have E5 : Ext wr w5 := (E2.trans x3).trans x5
          have R5 := Lib.hid (r5 (With (Old w) u4) (fun g hg => (E2.trans x3).lt (HVR.out g hg)))
          have hdl := HDL.out 4 rfl
          clear r5 x3 x5 E2
          generalize hDl : D.length = dl at *
          have HDl := Lib.hid hDl
          clear hDl
          go_wp2_with (at_builtin; refine wpList_append_src _ rfl (.tmp 31) (.tmp 37) _ rfl w.heap.size 45 i0 _ 3 56 Try.underlying32 hi0 hz0 hz1 hz2 rfl (by omega) u4 k css.flatten rfl ((own_ext HO.out E5).alloc _) _ 1 1 [.int .i64 138, .slice a5 dl c5, .slice none 0 0] rfl (Src.litB _ #[.int .i64 138, .slice a5 dl c5, .slice none 0 0] _ 3 _ (by simp) rfl (by simp [Value.oneCell'])) (by unfold maxLen; omega) (by omega) (by simp; exact Nat.le_succ_of_le (HX.out.trans E5).size) ?_; intro A6 c6 w6 hown6 hg6 hat6)
          have HB2 := Lib.hid (Built.push (w := wr) (x := nodeV m ⟨4, vn, vs, va, vb, vc⟩) HL.out H3.out HR.out (cs := [.int .i64 138, .slice a5 dl c5, .slice none 0 0]) rfl (E5.alloc _)
            (by rw [HNX.out]; exact ⟨_, _, rfl, R5.out.ext ((Ext.refl _).alloc _), rk_nil m _ _⟩) (by rw [HLK.out]; exact hown6) hg6 hat6)
          have hx6 : Ext w w6 := (HX.out.trans (E5.alloc _)).grown hg6 (fun g hg => (HO.out.lt g hg).1)
          clear hown6 hg6 hat6 E5
          go_wp2_with fail
          go_roundw
          case rel => exact ⟨k + 1, by omega, by go_num, by rw [HTK.out, List.map_append]; exact HB2.out, HOKN.out, hx6⟩
          case measure => simp [intOf]; omega
        · subst hkd
          rw [contV_5 _ rfl] at HC
          simp only at HC
          have HT : Hid (tagV ⟨5, vn, vs, va, vb, vc⟩ = 145) := rfl
          have HDV := Lib.hid (fun w1 => (dataMoment_any va vb vc w1))
          have HDE : Hid (datV ⟨5, vn, vs, va, vb, vc⟩ = numB va 4 ++ numB vb 3 ++ numB vc 1) := rfl
          rw [← HDE.out] at HDV
          have HNX : Hid (nodeV m ⟨5, vn, vs, va, vb, vc⟩ = (145, datV ⟨5, vn, vs, va, vb, vc⟩, [])) := rfl
          generalize datV ⟨5, vn, vs, va, vb, vc⟩ = D at *
          go_wp2_with fail
          refine (HC.out _).mono ?_
          rintro e w3 ⟨rfl, x3⟩
          go_wp2_with fail
          refine (tagMoment_any _ _ _ _).mono ?_
          rintro e w4 ⟨rfl, x4⟩
          go_wp2_with fail
          refine (HDV.out _).mono ?_
          rintro e w5 ⟨a5, c5, rfl, x5, r5⟩
          have E5 : Ext wr w5 := (E2.trans x3).trans (x4.trans x5)
          have R5 := Lib.hid (r5 (With (Old w) u4) (fun g hg => ((E2.trans x3).trans x4).lt (HVR.out g hg)))
          have hdl := HDL.out 5 rfl
          clear r5 x3 x5 E2
          generalize hDl : D.length = dl at *
          have HDl := Lib.hid hDl
          clear hDl
          go_wp2_with (at_builtin; refine wpList_append_src _ rfl (.tmp 31) (.tmp 37) _ rfl w.heap.size 45 i0 _ 3 56 Try.underlying32 hi0 hz0 hz1 hz2 rfl (by omega) u4 k css.flatten rfl ((own_ext HO.out E5).alloc _) _ 1 1 [.int .i64 145, .slice a5 dl c5, .slice none 0 0] rfl (Src.litB _ #[.int .i64 145, .slice a5 dl c5, .slice none 0 0] _ 3 _ (by simp) rfl (by simp [Value.oneCell'])) (by unfold maxLen; omega) (by omega) (by simp; exact Nat.le_succ_of_le (HX.out.trans E5).size) ?_; intro A6 c6 w6 hown6 hg6 hat6)
          have HB2 := Lib.hid (Built.push (w := wr) (x := nodeV m ⟨5, vn, vs, va, vb, vc⟩) HL.out H3.out HR.out (cs := [.int .i64 145, .slice a5 dl c5, .slice none 0 0]) rfl (E5.alloc _)
            (by rw [HNX.out]; exact ⟨_, _, rfl, R5.out.ext ((Ext.refl _).alloc _), rk_nil m _ _⟩) (by rw [HLK.out]; exact hown6) hg6 hat6)
          have hx6 : Ext w w6 := (HX.out.trans (E5.alloc _)).grown hg6 (fun g hg => (HO.out.lt g hg).1)
          clear hown6 hg6 hat6 E5
          go_wp2_with fail
          go_roundw
          case rel => exact ⟨k + 1, by omega, by go_num, by rw [HTK.out, List.map_append]; exact HB2.out, HOKN.out, hx6⟩
          case measure => simp [intOf]; omega

      · have HE := Lib.hid (fun w' he => HER.out k xv w' hxv hok hck he)
        have hcb : (chk xv != 0) = true := by simpa using hck
        clear hok hxv hck hbuilt hx
        generalize chk xv = ce at *
        obtain ⟨vk, vn, vs, va, vb, vc⟩ := xv
        simp only at *
        go_upto_region 5 with fail
        have hW : Ext wr (wr.alloc (.cells #[.int .i64 vk, .int .i64 vn, .string vs, .int .i64 va, .int .i64 vb, .int .i64 vc] 43)) := (Ext.refl wr).alloc _
        have BV := Bk.new wr #[.int .i64 vk, .int .i64 vn, .string vs, .int .i64 va, .int .i64 vb, .int .i64 vc] 43 wr.heap.size rfl
        generalize wr.alloc (.cells #[.int .i64 vk, .int .i64 vn, .string vs, .int .i64 va, .int .i64 vb, .int .i64 vc] 43) = w1 at *
        have q1 : ∀ j, w1.cell? ⟨wr.heap.size, j, none⟩ = (#[.int .i64 vk, .int .i64 vn, .string vs, .int .i64 va, .int .i64 vb, .int .i64 vc] : Array Value)[j]? := BV.cell
        go_wp2_with fail
        refine (HCK.out _).mono ?_
        rintro e w2 ⟨rfl, x2⟩
        go_wp2_with fail
        go_ret2
        exact HE.out _ ((HX.out.trans hW).trans x2)
    · have hki : ¬ (k : Int) < n := by omega
      have hl2 := take_all l k (by rw [HN.out]; omega)
      rw [hl2] at hbuilt hok
      obtain ⟨a', c', rfl⟩ := owns_slice hbuilt.choose_spec.1
      simp only [List.length_map, HN.out] at hbuilt ⊢
      have HF := Lib.hid (HOKE.out wr a' c' hok hx hbuilt)
      clear hbuilt hok hx
      go_wp2_with fail
      go_ret2
      exact HF.out
theorem nodesP_any {V : Nat → Prop} (m : Nat) (l : List Val) (v : Value) (w : World) (h : RF V 6 valE w v l) (hl : l.length ≤ 1000000) : Calls Try.prog 20 #[v] w (RetNE m w l) := by
  refine (nodesP_own m l v w h hl).mono ?_
  rintro e w' (h0 | ⟨h0, a, c, rfl, x, r⟩)
  · exact .inl h0
  · exact .inr ⟨h0, a, c, rfl, x, r.done (fun g hg => hg)⟩
end Go.Proofs.Ytjaofbfppnmdjaa
