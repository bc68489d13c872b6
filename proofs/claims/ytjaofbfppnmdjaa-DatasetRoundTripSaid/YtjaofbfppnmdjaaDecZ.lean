/- Contracts of Values and Decode: layer 11, the program. -/
import Derived.Test.YtjaofbfppnmdjaaDecY
import Derived.Test.YtjaofbfppnmdjaaTlvDecodesWalk
namespace Go.Proofs.Ytjaofbfppnmdjaa
open Go.RowKit
attribute [local go_sem ↓] Go.wp_at_zero Go.wp_at_succ

/-- It returns values and an error. -/
def RetVE (w : World) (l : List Val) (er : Int) (e : Ending) (w' : World) : Prop :=
  ∃ a c, e = .returned (.tuple #[.slice a l.length c, .int .i64 er]) ∧ Ext w w' ∧ ∀ V, (∀ k, V k → k < w.heap.size) → RF V 6 valE w' (.slice a l.length c) l
theorem RetVE.nil {w w' : World} (er : Int) (h : Ext w w') : RetVE w [] er (.returned (.tuple #[.slice none 0 0, .int .i64 er])) w' := ⟨none, 0, rfl, h, fun V _ => RF.nil V 6 valE w'⟩
theorem back_of {v : Val} (h : chk v = 0) : backV v = v := by
  have h1 := chk_of v (chk_kind h)
  rw [h] at h1
  split at h1
  · rename_i h2; simpa using h2
  · omega
theorem valsE_bad {α : Type} (l : List (NodeOf α)) (k : Nat) (x : NodeOf α) (hx : l[k]? = some x) (h0 : fstErr ((l.take k).map errV) = 0) (he : errV x ≠ 0) : valsE l = errV x ∧ valsV l = [] := by
  obtain ⟨hk, rfl⟩ := List.getElem?_eq_some_iff.1 hx
  have h1 := fstErr_take_succ errV l k hk h0
  have h2 := fstErr_of_take errV l (k + 1) (by rw [h1]; exact he)
  have h3 : valsE l = errV l[k] := by unfold valsE; rw [h2, h1]
  refine ⟨h3, ?_⟩
  unfold valsV
  rw [if_neg (by rw [h3]; exact he)]
theorem valsOf_snoc {α : Type} (l : List (NodeOf α)) (k : Nat) (x : NodeOf α) (v : Val) (hx : l[k]? = some x) (hr : readV x.1 x.2.1 = some v) : valsOf (l.take (k + 1)) = valsOf (l.take k) ++ [v] := by
  unfold valsOf
  rw [List.take_add_one, hx]
  simp [hr]
set_option maxRecDepth 100000 in
set_option maxHeartbeats 8000000 in
theorem valuesP_any {α : Type} (R : Rk α) {V : Nat → Prop} (l : List (NodeOf α)) (v : Value) (w : World) (h : (nodesRk R).rk V w v l) (hl : l.length ≤ 1000000) : Calls Try.prog 34 #[v] w (RetVE w (valsV l) (valsE l)) := by
  obtain ⟨i0, hi0, hz0, hz1, hz2⟩ := info_parts info_val
  obtain ⟨a, c, rfl, hc1, hc2⟩ := (nodesRk R).form h
  have HG : Hid (∀ w', Ext w w' → ∀ k x, l[k]? = some x → ∃ b off c' da dc ka kc, (Value.slice a l.length c) = .slice (some ⟨b, off, none⟩) l.length c' ∧ w'.cell? ⟨b, off + k * 3, none⟩ = some (.int .i64 x.1) ∧
      w'.cell? ⟨b, off + k * 3 + 1, none⟩ = some (.slice da x.2.1.length dc) ∧ w'.cell? ⟨b, off + k * 3 + 2, none⟩ = some (.slice ka x.2.2.length kc) ∧ RB V w' (.slice da x.2.1.length dc) x.2.1) := fun w' he k x hx => by
    obtain ⟨hk, rfl⟩ := List.getElem?_eq_some_iff.1 hx
    obtain ⟨b, off, c', da, dc, ka, kc, hv, _, _, g0, g1, g2, hd, _⟩ := node_at ((nodesRk R).ext h he) hk
    exact ⟨b, off, c', da, dc, ka, kc, hv, g0, g1, g2, hd⟩
  have HER : Hid (∀ (k : Nat) x w' er, l[k]? = some x → fstErr ((l.take k).map errV) = 0 → errV x = er → er ≠ 0 → Ext w w' → RetVE w (valsV l) (valsE l) (.returned (.tuple #[.slice none 0 0, .int .i64 er])) w') := fun k x w' er hx h0 he hne hw => by
    have := valsE_bad l k x hx h0 (by rw [he]; exact hne)
    rw [this.1, this.2, he]
    exact RetVE.nil _ hw
  have HOK : Hid (∀ w' a' c', fstErr (l.map errV) = 0 → Ext w w' → w'.ownsRow w.heap.size 43 6 (.slice a' l.length c') l.length ((valsOf l).flatMap valE) → RetVE w (valsV l) (valsE l) (.returned (.tuple #[.slice a' l.length c', .int .i64 0])) w') := fun w' a' c' h0 he ho => by
    have hv := valsV_len l h0
    unfold valsV
    rw [show valsE l = 0 from h0, if_pos rfl]
    refine ⟨a', c', by rw [hv], he, fun V hV => ?_⟩
    rw [hv]
    refine RF.of_own (base := w.heap.size) (e := 43) valE_len ?_ hV
    rw [hv]; exact ho
  have HTS : Hid (∀ k x, l[k]? = some x → fstErr ((l.take k).map errV) = 0 → fstErr ((l.take (k + 1)).map errV) = errV x) := fun k x hx h0 => by
    obtain ⟨hk, rfl⟩ := List.getElem?_eq_some_iff.1 hx
    exact fstErr_take_succ errV l k hk h0
  obtain ⟨n, hn⟩ : ∃ n, l.length = n := ⟨_, rfl⟩
  have HN := Lib.hid hn
  rw [hn] at hc1 hl HOK HG ⊢
  clear h hc2 hn
  go_enter Try.func34, Try.ntmps34
  go_wp2_with (at_make; refine wpList_make_own _ rfl _ _ 22 rfl w.heap.size 43 i0 _ 6 Try.underlying22 hi0 hz0 hz1 _ _ _ n rfl rfl (by omega) (by rw [hz2]; omega) (by unfold maxLen; omega) (Nat.le_refl _) ?_; intro w2 hown2 hg2; have he2 := (Ext.refl w).trans (ext_of_grown hg2))
  have HO2 := Lib.hid hown2
  have HX2 := Lib.hid he2
  clear hown2 hg2 he2
  go_loopw [4, 14] (fun o i wr => ∃ (k : Nat), k ≤ n ∧ i = .int .i64 k ∧ wr.ownsRow w.heap.size 43 6 o k ((valsOf (l.take k)).flatMap valE) ∧ fstErr ((l.take k).map errV) = 0 ∧ Ext w wr) (fun _ i _ => n - (intOf i).toNat)
  case atStart => exact ⟨0, by omega, rfl, HO2.out, rfl, HX2.out⟩
  case round =>
    obtain ⟨k, hk, rfl, hown, hok, hx⟩ := hrel
    by_cases hlt : k < n
    · obtain ⟨x, hxv⟩ : ∃ x, l[k]? = some x := ⟨_, List.getElem?_eq_getElem (by rw [HN.out]; exact hlt)⟩
      obtain ⟨b, off, c', da, dc, ka, kc, hv, g0, g1, g2, hrb⟩ := HG.out wr hx k x hxv
      simp only [Value.slice.injEq] at hv
      obtain ⟨rfl, -, rfl⟩ := hv
      have hki : (k : Int) < n := by omega
      have HX := Lib.hid hx
      have HO := Lib.hid hown
      have HE := Lib.hid (fun w' er he hne hw => HER.out k x w' er hxv hok he hne hw)
      have HRB := Lib.hid hrb
      have HTK := Lib.hid (fun v hr => valsOf_snoc l k x v hxv hr)
      have HOKN : Hid (errV x = 0 → fstErr ((l.take (k + 1)).map errV) = 0) := fun h => by
        rw [HTS.out k x hxv hok]
        exact h
      have HKT := Lib.hid (fun w1 => knownTag_any x.1 w1)
      have HRD := Lib.hid (fun w1 (he : Ext wr w1) => readD_any x.1 x.2.1 _ w1 (hrb.ext he))
      have herr : errV x = if kindT x.1 = 0 ∨ 0 < x.2.2.length then 15 else if readV x.1 x.2.1 = none then 16 else 0 := rfl
      have hcan := Lib.hid (fun v hr => readV_canon x.1 x.2.1 hrb.byt v hr)
      generalize hdl : x.2.1.length = dl at *
      generalize hkl : x.2.2.length = kl at *
      clear hown hok hxv hx HER hrb hdl hkl
      obtain ⟨xs, hxs⟩ : ∃ xs, (valsOf (l.take k)).flatMap valE = xs := ⟨_, rfl⟩
      rw [hxs] at HO
      have HXS := Lib.hid hxs
      clear hxs
      obtain ⟨t, D, ks⟩ := x
      simp only at *
      go_upto_region 5 with fail
      have hW : Ext wr (wr.alloc (.cells #[.int .i64 t, .slice da dl dc, .slice ka kl kc] 45)) := (Ext.refl wr).alloc _
      have BV := Bk.new wr #[.int .i64 t, .slice da dl dc, .slice ka kl kc] 45 wr.heap.size rfl
      generalize wr.alloc (.cells #[.int .i64 t, .slice da dl dc, .slice ka kl kc] 45) = w1 at *
      have q1 : ∀ j, w1.cell? ⟨wr.heap.size, j, none⟩ = (#[.int .i64 t, .slice da dl dc, .slice ka kl kc] : Array Value)[j]? := BV.cell
      clear g0 g1 g2
      by_cases hkt : kindT t = 0
      · rw [if_pos (.inl hkt)] at herr
        have HF := Lib.hid (fun w' hw => HE.out w' 15 herr (by omega) hw)
        rw [decide_eq_false (fun h => h hkt)] at HKT
        clear herr hcan
        go_wp2_with fail
        refine (HKT.out _).mono ?_
        rintro e w2 ⟨rfl, rfl⟩
        go_wp2_with fail
        go_ret2
        exact HF.out _ (HX.out.trans hW)
      · rw [decide_eq_true hkt] at HKT
        by_cases hk0 : 0 < kl
        · rw [if_pos (.inr hk0)] at herr
          have HF := Lib.hid (fun w' hw => HE.out w' 15 herr (by omega) hw)
          have hki2 : (0 : Int) < kl := by omega
          clear herr hcan
          go_wp2_with fail
          refine (HKT.out _).mono ?_
          rintro e w2 ⟨rfl, rfl⟩
          go_wp2_with fail
          go_ret2
          exact HF.out _ (HX.out.trans hW)
        · rw [if_neg (by omega)] at herr
          have hki2 : ¬ (0 : Int) < kl := by omega
          cases hrv : readV t D with
          | none =>
            rw [if_pos hrv] at herr
            have HF := Lib.hid (fun w' hw => HE.out w' 16 herr (by omega) hw)
            rw [contRes_of_none hrv] at HRD
            clear herr hcan hrv
            go_wp2_with fail
            refine (HKT.out _).mono ?_
            rintro e w2 ⟨rfl, rfl⟩
            go_wp2_with fail
            refine (HRD.out _ hW).mono ?_
            rintro e w3 ⟨rfl, x3⟩
            go_wp2_with fail
            go_ret2
            exact HF.out _ ((HX.out.trans hW).trans x3)
          | some y =>
            rw [if_neg (by rw [hrv]; simp)] at herr
            rw [contRes_of_some hrv] at HRD
            have hcc := (hcan.out y hrv).1
            have HVO := Lib.hid (fun w1 => valueOf_yes y w1 (chk_kind hcc))
            rw [back_of hcc] at HVO
            have HTY := Lib.hid (HTK.out y hrv)
            have HON := Lib.hid (HOKN.out herr)
            clear herr hcan hrv hcc HTK HOKN
            obtain ⟨vk, vn, vs, va, vb, vc⟩ := y
            have HVP : Hid (∀ w1, Calls Try.prog 50 #[contV ⟨vk, vn, vs, va, vb, vc⟩] w1 fun e w' => e = .returned (.agg #[.int .i64 vk, .int .i64 vn, .string vs, .int .i64 va, .int .i64 vb, .int .i64 vc]) ∧ Ext w1 w') := HVO
            clear HVO
            generalize contV ⟨vk, vn, vs, va, vb, vc⟩ = cv at *
            go_wp2_with fail
            refine (HKT.out _).mono ?_
            rintro e w2 ⟨rfl, rfl⟩
            go_wp2_with fail
            refine (HRD.out _ hW).mono ?_
            rintro e w3 ⟨rfl, x3⟩
            go_wp2_with fail
            refine (HVP.out _).mono ?_
            rintro e w4 ⟨rfl, x4⟩
            have E4 : Ext wr w4 := (hW.trans x3).trans x4
            clear x3 x4 hW BV q1
            go_wp2_with (at_builtin; refine wpList_append_src _ rfl (.tmp 38) (.tmp 41) _ rfl w.heap.size 43 i0 _ 6 56 Try.underlying22 hi0 hz0 hz1 hz2 rfl (by omega) u4 k xs rfl ((own_ext HO.out E4).alloc _) _ 1 1 [.int .i64 vk, .int .i64 vn, .string vs, .int .i64 va, .int .i64 vb, .int .i64 vc] rfl (Src.litB _ #[.int .i64 vk, .int .i64 vn, .string vs, .int .i64 va, .int .i64 vb, .int .i64 vc] _ 6 _ (by simp) rfl (by simp [Value.oneCell'])) (by unfold maxLen; omega) (by omega) ((HX.out.trans E4).alloc _).size ?_; intro A6 c6 w6 hown6 hg6 hat6)
            have hx6 : Ext w w6 := ((HX.out.trans E4).alloc _).grown hg6 (fun g hg => (HO.out.lt g hg).1)
            have HO6 := Lib.hid hown6
            clear hown6 hg6 hat6 E4
            go_wp2_with fail
            go_roundw
            case rel => exact ⟨k + 1, by omega, by go_num, by rw [HTY.out, List.flatMap_append, HXS.out]; exact HO6.out, HON.out, hx6⟩
            case measure => simp [intOf]; omega
    · have hki : ¬ (k : Int) < n := by omega
      have hl2 := take_all l k (by rw [HN.out]; omega)
      rw [hl2] at hown hok
      obtain rfl : k = n := by omega
      obtain ⟨a', c', rfl⟩ := owns_slice hown
      have HF := Lib.hid (HOK.out wr a' c' hok hx hown)
      clear hown hok hx
      go_wp2_with fail
      go_ret2
      exact HF.out
set_option maxHeartbeats 2000000 in
theorem decDP_any (bs : List Int) (v : Value) (w : World) (h : RB Any w v bs) : Calls Try.prog 32 #[v] w (RetVE w (decDV bs) (decDE bs)) := by
  have HD := Lib.hid (decodeP_any 7 bs v w (by omega) h)
  have hb := decTop_bad 7 bs
  have hl : ((decTop 7 bs).1 : List (NodeOf (Nd 6))).length ≤ 1000000 := by
    have h1 := decTop_cnt 7 bs
    exact Nat.le_trans (Nat.le_trans (Nat.le_add_right _ _) h1) (by omega)
  have HV := Lib.hid (fun w1 v1 (h1 : (nodesRk (RkN 6)).rk Any w1 v1 (decTop 7 bs).1) => valuesP_any (RkN 6) (decTop 7 bs).1 v1 w1 h1 hl)
  have e1 : decDV bs = if (decTop 7 bs).2 = 0 then valsV (α := Nd 6) (decTop 7 bs).1 else [] := rfl
  have e2 : decDE bs = if (decTop 7 bs).2 = 0 then valsE (α := Nd 6) (decTop 7 bs).1 else (decTop 7 bs).2 := rfl
  rw [e1, e2]
  obtain ⟨a, c, rfl, _, _⟩ := h.form
  clear h e1 e2 hl
  generalize decTop 7 bs = z at *
  obtain ⟨l, er⟩ := z
  simp only at *
  by_cases her : er = 0
  · subst her
    rw [if_pos rfl, if_pos rfl]
    clear hb
    generalize valsV (α := Nd 6) l = L at *
    generalize valsE (α := Nd 6) l = E at *
    generalize bs.length = n at *
    go_enter Try.func32, Try.ntmps32
    go_wp2_with fail
    refine HD.out.mono ?_
    rintro e w1 ⟨a1, c1, rfl, x1, r1⟩
    have HV1 := Lib.hid (HV.out w1 _ (r1 Any (fun _ h => h.elim)))
    clear r1 HV HD
    generalize l.length = m at *
    go_wp2_with fail
    refine HV1.out.mono ?_
    rintro e w2 ⟨a2, c2, rfl, x2, r2⟩
    go_wp2_with fail
    go_ret2
    exact ⟨a2, c2, rfl, x1.trans x2, fun V hV => r2 V (fun k hk => x1.lt (hV k hk))⟩
  · rw [if_neg her, if_neg her]
    have her2 : (er != 0) = true := by simpa using her
    clear HV hb her
    generalize bs.length = n at *
    go_enter Try.func32, Try.ntmps32
    go_wp2_with fail
    refine HD.out.mono ?_
    rintro e w1 ⟨a1, c1, rfl, x1, r1⟩
    clear r1
    generalize l.length = m at *
    go_wp2_with fail
    go_ret2
    exact RetVE.nil _ x1
end Go.Proofs.Ytjaofbfppnmdjaa
