/- Nodes and Encode of the reference: layer 11. -/
import Derived.Test.YtjaofbfppnmdjaaDatD
import Derived.Test.YtjaofbfppnmdjaaDatS
import Derived.Test.YtjaofbfppnmdjaaDatT
namespace Go.Proofs.Ytjaofbfppnmdjaa
open Go.RowKit
attribute [local go_sem ↓] Go.wp_at_zero Go.wp_at_succ

set_option maxRecDepth 100000 in
set_option maxHeartbeats 8000000 in
theorem nodesR_any {V : Nat → Prop} (m : Nat) (l : List Val) (v : Value) (w : World) (h : RF V 6 valE w v l) (hl : l.length ≤ 1000000) : Calls Try.prog 21 #[v] w (RetNE m w l) := by
  obtain ⟨i0, hi0, hz0, hz1, hz2⟩ := info_parts info_rnode
  obtain ⟨a, c, rfl, hc1, hc2⟩ := h.form
  have HH := Lib.hid h
  have HER : Hid (∀ (k : Nat) x w', l[k]? = some x → vErr (l.take k) = 0 → chk x ≠ 0 → Ext w w' → RetNE m w l (.returned (.tuple #[.slice none 0 0, .int .i64 (chk x)])) w') := fun k x w' hx h0 hc he => by
    have h1 := vErr_take h0 hx
    have h2 := vErr_of_take l (k + 1) (by rw [h1]; exact hc)
    exact .inl ⟨by rw [h2, h1]; exact hc, by rw [h2, h1], he⟩
  have HOKE : Hid (∀ w' a' c', vErr l = 0 → Ext w w' → (nodesRk (RkN m)).rk (Old w) w' (.slice a' l.length c') (l.map (nodeV m)) → RetNE m w l (.returned (.tuple #[.slice a' l.length c', .int .i64 0])) w') := fun w' a' c' h0 he hr => .inr ⟨h0, a', c', rfl, he, hr⟩
  obtain ⟨n, hn⟩ : ∃ n, l.length = n := ⟨_, rfl⟩
  have HN := Lib.hid hn
  rw [hn] at hc1 hl HOKE ⊢
  clear h hc2 hn
  go_enter Try.func21, Try.ntmps21
  go_wp2_with fail
  go_loopw [4, 5] (fun o i wr => ∃ (k : Nat), k ≤ n ∧ i = .int .i64 k ∧ Built (RkN m) (Old w) w.heap.size 98 wr o ((l.take k).map (nodeV m)) ∧ vErr (l.take k) = 0 ∧ Ext w wr) (fun _ i _ => n - (intOf i).toNat)
  case atStart => exact ⟨0, by omega, rfl, Built.nil _ _ _ _ _, rfl, Ext.refl _⟩
  case round =>
    obtain ⟨k, hk, rfl, hbuilt, hok, hx⟩ := hrel
    by_cases hlt : k < n
    · obtain ⟨xv, hxv⟩ : ∃ x, l[k]? = some x := ⟨_, List.getElem?_eq_getElem (by rw [HN.out]; exact hlt)⟩
      obtain ⟨b, off, c', hv, g0, g1, g2, g3, g4, g5⟩ := val_get (HH.out.ext hx) hxv
      rw [HN.out] at hv
      simp only [Value.slice.injEq] at hv
      obtain ⟨rfl, -, rfl⟩ := hv
      have hki : (k : Int) < n := by omega
      have HCK := Lib.hid (fun w1 => checkVR_any xv w1)
      have HX := Lib.hid hx
      by_cases hck : chk xv = 0
      · have HD := Lib.hid (fun w1 => dataR_any xv w1 hck)
        have HOKN : Hid (vErr (l.take (k + 1)) = 0) := (vErr_take hok hxv).trans hck
        have HTK : Hid (l.take (k + 1) = l.take k ++ [xv]) := by show l.take (k + 1) = _; rw [List.take_add_one, hxv]; rfl
        have HNX : Hid (nodeV m xv = (tagV xv, datV xv, [])) := rfl
        rw [hck] at HCK
        obtain ⟨css, hown, hlen, h3, hrep⟩ := hbuilt
        have hlk : ((l.take k).map (nodeV m)).length = k := by simp; have := HN.out; omega
        rw [hlk] at hown
        have HLK := Lib.hid hlk
        have HVR := Lib.hid (With.lt (V := Old w) (fun g hg => hx.lt hg) hown)
        have HL := Lib.hid hlen
        have H3 := Lib.hid h3
        have HR := Lib.hid hrep
        have HO := Lib.hid hown
        have HGC := Lib.hid (fun w' (he : Ext wr w') => And.intro (he.cell g0) (And.intro (he.cell g1) (And.intro (he.cell g2) (And.intro (he.cell g3) (And.intro (he.cell g4) (he.cell g5))))))
        clear hlk hlen h3 hrep hown hok hx hck hxv HER
        generalize tagV xv = tg at *
        generalize datV xv = D at *
        obtain ⟨vk, vn, vs, va, vb, vc⟩ := xv
        simp only at *
        go_wp2_with fail
        refine (HCK.out _).mono ?_
        rintro e w2 ⟨rfl, x2⟩
        obtain ⟨g0', g1', g2', g3', g4', g5'⟩ := HGC.out w2 x2
        clear g0 g1 g2 g3 g4 g5
        go_wp2_with fail
        refine (HD.out _).mono ?_
        rintro e w5 ⟨a5, c5, rfl, x5, r5⟩
        have E5 : Ext wr w5 := x2.trans x5
        have R5 := Lib.hid (r5 (With (Old w) u4) (fun g hg => x2.lt (HVR.out g hg)))
        clear r5 x2 x5 g0' g1' g2' g3' g4' g5'
        generalize hDl : D.length = dl at *
        clear hDl
        go_wp2_with (at_builtin; refine wpList_append_src _ rfl (.tmp 31) (.tmp 35) _ rfl w.heap.size 98 i0 _ 3 56 Try.underlying35 hi0 hz0 hz1 hz2 rfl (by omega) u4 k css.flatten rfl ((own_ext HO.out E5).alloc _) _ 1 1 [.int .i64 tg, .slice a5 dl c5, .slice none 0 0] rfl (Src.litB _ #[.int .i64 tg, .slice a5 dl c5, .slice none 0 0] _ 3 _ (by simp) rfl (by simp [Value.oneCell'])) (by unfold maxLen; omega) (by omega) (by simp; exact Nat.le_succ_of_le (HX.out.trans E5).size) ?_; intro A6 c6 w6 hown6 hg6 hat6)
        have HB2 := Lib.hid (Built.push (w := wr) (x := nodeV m ⟨vk, vn, vs, va, vb, vc⟩) HL.out H3.out HR.out (cs := [.int .i64 tg, .slice a5 dl c5, .slice none 0 0]) rfl (E5.alloc _)
          (by rw [HNX.out]; exact ⟨_, _, rfl, R5.out.ext ((Ext.refl _).alloc _), rk_nil m _ _⟩) (by rw [HLK.out]; exact hown6) hg6 hat6)
        have hx6 : Ext w w6 := (HX.out.trans (E5.alloc _)).grown hg6 (fun g hg => (HO.out.lt g hg).1)
        clear hown6 hg6 hat6 E5
        go_wp2_with fail
        go_roundw
        case rel => exact ⟨k + 1, by omega, by go_num, by rw [HTK.out, List.map_append]; exact HB2.out, HOKN.out, hx6⟩
        case measure => simp [intOf]; omega
      · have HE := Lib.hid (fun w' he => HER.out k xv w' hxv hok hck he)
        have hcb : (chk xv != 0) = true := by simpa using hck
        clear hok hxv hck hbuilt hx
        generalize chk xv = ce at *
        obtain ⟨vk, vn, vs, va, vb, vc⟩ := xv
        simp only at *
        go_wp2_with fail
        refine (HCK.out _).mono ?_
        rintro e w2 ⟨rfl, x2⟩
        go_wp2_with fail
        go_ret2
        exact HE.out _ (HX.out.trans x2)
    · have hki : ¬ (k : Int) < n := by omega
      have hl2 := take_all l k (by rw [HN.out]; omega)
      rw [hl2] at hbuilt hok
      have hdn := hbuilt.done (fun g hg => hg)
      obtain ⟨a', c', rfl⟩ := owns_slice hbuilt.choose_spec.1
      simp only [List.length_map, HN.out] at hdn ⊢
      have HF := Lib.hid (HOKE.out wr a' c' hok hx hdn)
      clear hdn hbuilt hok hx
      go_wp2_with fail
      go_ret2
      exact HF.out
set_option maxRecDepth 100000 in
set_option maxHeartbeats 2000000 in
theorem encDR_any {V : Nat → Prop} (l : List Val) (v : Value) (w : World) (h : RF V 6 valE w v l) (hl : l.length ≤ 1000000) : Calls Try.prog 18 #[v] w (RetBE w (encDB l) (encDE l)) := by
  have HN := Lib.hid (nodesR_any 0 l v w h hl)
  by_cases he : vErr l = 0
  · have HE : Hid (∀ w1 a c, Ext w w1 → (nodesRk (RkN 0)).rk (Old w) w1 (.slice a l.length c) (l.map (nodeV 0)) → Calls Try.prog 47 #[.slice a l.length c] w1 (RetBE w1 (encDB l) (encDE l))) := fun w1 a c hx hr => by
      have := encodeR_any 1 (Old w) (l.map (nodeV 0)) (.slice a l.length c) w1 hr (Nat.le_trans (cnt_vals 0 l he) (by omega))
      unfold encDB encDE
      rw [if_pos he, if_pos he]
      exact this
    generalize encDB l = D at *
    generalize encDE l = E at *
    clear h
    go_enter Try.func18, Try.ntmps18
    go_wp2_with fail
    refine HN.out.mono ?_
    rintro e w1 (⟨h0, _⟩ | ⟨_, a1, c1, rfl, x1, r1⟩)
    · exact absurd he h0
    have HE1 := Lib.hid (HE.out w1 a1 c1 x1 r1)
    clear r1 HE HN he
    generalize l.length = n at *
    go_wp2_with fail
    refine HE1.out.mono ?_
    rintro e w2 ⟨a2, c2, rfl, x2, r2⟩
    go_wp2_with fail
    go_ret2
    exact ⟨a2, c2, rfl, x1.trans x2, fun V hV => r2 V (fun k hk => x1.lt (hV k hk))⟩
  · have hD : encDB l = [] := by unfold encDB; rw [if_neg he]
    have hE : encDE l = vErr l := by unfold encDE; rw [if_neg he]
    rw [hD, hE]
    have heb : (vErr l != 0) = true := by simpa using he
    clear h hD hE
    go_enter Try.func18, Try.ntmps18
    go_wp2_with fail
    refine HN.out.mono ?_
    rintro e w1 (⟨_, rfl, x1⟩ | ⟨h0, _⟩)
    · clear HN he
      generalize vErr l = ee at *
      go_wp2_with fail
      go_ret2
      exact RetBE.nil _ x1
    · exact absurd h0 he
end Go.Proofs.Ytjaofbfppnmdjaa
