/- The walk of the statement DatasetBits. -/
import Derived.Test.YtjaofbfppnmdjaaDatD
import Derived.Test.YtjaofbfppnmdjaaBitP
namespace Go.Proofs.Ytjaofbfppnmdjaa
open Go.RowKit
attribute [local go_sem ↓] Go.wp_at_zero Go.wp_at_succ

theorem bool_get {V : Nat → Prop} {w : World} {v : Value} {l : List Bool} (h : RF V 1 boolE w v l) {i : Nat} {x : Bool} (hx : l[i]? = some x) : ∃ b off c, v = .slice (some ⟨b, off, none⟩) l.length c ∧ w.cell? ⟨b, off + i, none⟩ = some (.bool x) := by
  obtain ⟨b, off, c, hv, _, _, hc⟩ := h.get hx
  exact ⟨b, off, c, hv, by have := hc 0 _ rfl; rwa [Nat.mul_one, Nat.add_zero] at this⟩
set_option maxRecDepth 100000 in
set_option maxHeartbeats 8000000 in
theorem bits_walk (l : List Bool) (v : Value) (w : World) (hl : RF Any 1 boolE w v l) : Calls Try.prog 5 #[v] w fun e w' => e = .returned (.bool true) ∧ Ext w w' := by
  have HK := Lib.hid (known11_any w)
  have HIB := Lib.hid (fun w1 (he : Ext w w1) => hl.ext he)
  obtain ⟨ja, jc, rfl, hj1, hj2⟩ := hl.form
  unfold maxLen at hj2
  clear hl
  obtain ⟨n, hn⟩ : ∃ n, l.length = n := ⟨_, rfl⟩
  have HLN := Lib.hid hn
  rw [hn] at hj1 ⊢
  by_cases hbig : 64 < n
  · have hbi : (64 : Int) < n := by omega
    clear hn
    go_enter Try.func5, Try.ntmps5
    go_wp2_with fail
    refine HK.out.mono ?_
    rintro e w1 ⟨rfl, x1⟩
    go_wp2_with fail
    go_ret
    exact ⟨rfl, x1⟩
  have hbi : ¬ (64 : Int) < n := by omega
  have hn64 : n ≤ 64 := by omega
  have hbd : decide ((64 : Int) < n) = false := by simpa using hbi
  have hck := strL_chk l (by omega)
  have HN := Lib.hid (fun w1 => nodesP_any 0 [⟨3, 0, strL l, 0, 0, 0⟩] _ _ (RF.single w1 #[.int .i64 3, .int .i64 0, .string (strL l), .int .i64 0, .int .i64 0, .int .i64 0] ⟨3, 0, strL l, 0, 0, 0⟩ _ rfl rfl) (by simp))
  have HV : Hid (vErr [⟨3, 0, strL l, 0, 0, 0⟩] = 0) := by show vErr _ = 0; simp [vErr, hck]
  have HD : Hid (nodeV 0 ⟨3, 0, strL l, 0, 0, 0⟩ = ((132, bitsB (strL l), []) : NodeOf (Nd 0))) := rfl
  have HSN := Lib.hid (fun (k : Nat) (b : Bool) (h : l[k]? = some b) => show strL (l.take (k + 1)) = strL (l.take k) ++ ⟨#[if b then 49 else 48]⟩ by rw [List.take_add_one, h]; exact strL_snoc _ _)
  obtain ⟨nb, hnb⟩ : ∃ nb, (n + 7) / 8 = nb := ⟨_, rfl⟩
  have hbl : (bitsB (strL l)).length = 1 + nb := by rw [bitsB_len, strL_size, hn, hnb]
  have HBL := Lib.hid hbl
  have HBG := Lib.hid (fun (j : Nat) (h : j < 1 + nb) => by have := bitsB_get (strL l) j (by rw [strL_size, hn, hnb]; exact h); rwa [strL_size, hn] at this)
  have HBA := Lib.hid (fun (i : Nat) b hb => bit_at l i b hb)
  rw [hn] at HBA
  have hpad : (8 - (n : Int) % 8) % 8 = (padB n : Int) := by unfold padB; omega
  have hpl := padB_le n
  have HPD := Lib.hid (show padB (strL l).size = padB n by rw [strL_size, hn])
  have hnb8 : ((n : Int) + 7) / 8 = nb := by omega
  have hnbb : nb ≤ 8 := by omega
  have hnn : n ≤ 8 * nb := by omega
  clear hn hnb hck hbl hbig
  go_enter Try.func5, Try.ntmps5
  go_wp2_with fail
  refine HK.out.mono ?_
  rintro e w1 ⟨rfl, x1⟩
  go_wp2_with fail
  go_loopw [3, 4] (fun s i wr => ∃ k : Nat, k ≤ n ∧ i = .int .i64 k ∧ s = .string (strL (l.take k)) ∧ Ext w wr) (fun _ i _ => n - (intOf i).toNat)
  case atStart => exact ⟨0, by omega, rfl, rfl, x1⟩
  case round =>
    obtain ⟨wk, rfl⟩ : ∃ wk, wk = wr := ⟨_, rfl⟩
    obtain ⟨k, hk, rfl, rfl, x1⟩ := hrel
    by_cases hlt : k < n
    · have hki : (k : Int) < n := by omega
      obtain ⟨b, hbk⟩ : ∃ x, l[k]? = some x := ⟨_, List.getElem?_eq_getElem (by rw [HLN.out]; exact hlt)⟩
      obtain ⟨jb, jo, jc', hv2, j0⟩ := bool_get (HIB.out wk x1) hbk
      rw [HLN.out] at hv2
      simp only [Value.slice.injEq] at hv2
      obtain ⟨rfl, -, rfl⟩ := hv2
      have HS := Lib.hid (HSN.out k b hbk)
      clear hbk hnb8 hpad
      have hsk : (strL (l.take k)).size ≤ 64 := by rw [strL_size]; simp; omega
      have z2 : (⟨#[49]⟩ : ByteArray).size ≤ 100 := by decide
      have z3 : (⟨#[48]⟩ : ByteArray).size ≤ 100 := by decide
      generalize strL (l.take k) = sk at *
      cases b
      all_goals
        go_wp2_with fail
        go_roundw
        case rel => exact ⟨k + 1, by omega, by go_num, by rw [HS.out]; rfl, by first | exact x1 | exact x1.drew⟩
        case measure => simp [intOf]; omega
    · have hki : ¬ (k : Int) < n := by omega
      rw [take_all l k (by rw [HLN.out]; omega)]
      go_wp2_with fail
      refine (HN.out _).mono ?_
      rintro e w2 (⟨he, _⟩ | ⟨_, a2, c2, rfl, x2, r2⟩)
      · exact absurd HV.out he
      have X2 : Ext w w2 := (x1.alloc _).trans x2
      simp only [List.map_cons, List.map_nil, HD.out] at r2
      obtain ⟨b, off, c', da, dc, ka, kc, hv, hcap, hbV, g0, g1, g2, hd, hkk⟩ := node_at r2 (i := 0) (by simp)
      simp only [List.length_cons, List.length_nil, Nat.zero_add, Nat.zero_mul, Nat.add_zero, List.getElem_cons_zero, HBL.out] at hv g0 g1 g2 hkk hcap
      simp only [List.getElem_cons_zero] at hd
      simp only [Value.slice.injEq] at hv
      obtain ⟨rfl, -, rfl⟩ := hv
      obtain ⟨db, doff, dc', hdv, hdc, hdm, _, hcell⟩ := hd.at_ (by rw [HBL.out]; omega)
      simp only [HBL.out, Value.slice.injEq] at hdv hdc
      obtain ⟨rfl, -, rfl⟩ := hdv
      have HC : Hid (∀ j, j < 1 + nb → w2.cell? ⟨db, doff + j, none⟩ = some (.int .u8 (bitL (strL l) n j))) := fun j hj => by
        rw [hcell j (by rw [HBL.out]; exact hj)]
        have := HBG.out j hj
        rw [List.getD_eq_getElem?_getD, List.getElem?_eq_getElem (by rw [HBL.out]; exact hj)] at this
        simp only [Option.getD_some] at this
        rw [this]
      have b0 : w2.cell? ⟨db, doff, none⟩ = some (.int .u8 (padB n : Int)) := by
        have := HC.out 0 (by omega)
        rw [Nat.add_zero] at this
        rw [this]
        unfold bitL
        rw [if_pos rfl, HPD.out]
      clear r2 hd hkk hcell x2 HN HK HV hbV g2 HD HBG HBL HSN
      generalize padB n = pd at *
      have hz1 : ((pd : Int) != (pd : Int)) = false := by simp
      have hz2 : ((1 + (nb : Int)) != (1 + (nb : Int))) = false := by simp
      go_wp2_with fail
      clear hpad hnb8 hz1 hz2
      generalize (8 - (n : Int) % 8) % 8 = z66
      generalize 8 - (n : Int) % 8 = z65
      generalize (n : Int) % 8 = z64
      generalize ((n : Int) + 7) / 8 = z50
      have HG1 := Lib.hid (fun w' (he : Ext w2 w') => he.cell g1)
      have HCC := Lib.hid (fun w' (he : Ext w2 w') (j : Nat) (hj : j < 1 + nb) => he.cell (HC.out j hj))
      clear HC g0 g1 b0
      go_loopw [7] (fun i wz => ∃ j : Nat, j ≤ 8 * nb ∧ i = .int .i64 j ∧ Ext w2 wz) (fun i _ => 8 * nb - (intOf i).toNat)
      case atStart => exact ⟨0, by omega, rfl, Ext.refl _⟩
      case round =>
        obtain ⟨j, hj, rfl, hxz⟩ := hrel
        have g1 := HG1.out _ hxz
        have hx1 : IntKind.i64.wrap (1 + (nb : Int) - 1) = (nb : Int) := by rw [show 1 + (nb : Int) - 1 = nb by omega]; exact IntWalk.i64_in _ (by omega)
        by_cases hlt : j < 8 * nb
        · have hji : (j : Int) < 8 * nb := by omega
          have hd1 : (j : Int) / 8 < nb := by omega
          have hd2 : (0 : Int) ≤ (j : Int) / 8 := by omega
          have h3 : (1 + (j : Int) / 8).toNat = 1 + j / 8 := by omega
          have h4 : (7 - (j : Int) % 8).toNat = 7 - j % 8 := by omega
          have h5 : (1 + (j : Int) / 8) < ((1 + nb : Nat) : Int) := by omega
          have h6 : (0 : Int) ≤ 1 + (j : Int) / 8 := by omega
          have h7 : (0 : Int) ≤ 7 - (j : Int) % 8 := by omega
          have h8 : 7 - (j : Int) % 8 ≤ 8 := by omega
          have e1 : IntKind.i64.wrap ((j : Int) / 8) = (j : Int) / 8 := IntWalk.i64_in _ (by omega)
          have e2 : IntKind.i64.wrap (1 + (j : Int) / 8) = 1 + (j : Int) / 8 := IntWalk.i64_in _ (by omega)
          have e4 : (j : Int).tmod 8 = (j : Int) % 8 := Int.tmod_eq_emod_of_nonneg (by omega)
          have e5 : IntKind.i64.wrap (7 - (j : Int) % 8) = 7 - (j : Int) % 8 := IntWalk.i64_in _ (by omega)
          have e6 : IntKind.u64.wrap (7 - (j : Int) % 8) = 7 - (j : Int) % 8 := by rw [IntKind.wrap_u64]; omega
          have q0 : wr.cell? ⟨db, doff + (1 + j / 8), none⟩ = some (.int .u8 (bitV (strL l) n (j / 8))) := by
            rw [HCC.out wr hxz (1 + j / 8) (by omega)]
            unfold bitL
            rw [if_neg (by omega), show 1 + j / 8 - 1 = j / 8 by omega]
          obtain ⟨b, hb⟩ : ∃ b, b = (l[j]? == some true) := ⟨_, rfl⟩
          have hand := HBA.out j b hb
          generalize bitV (strL l) n (j / 8) = X at *
          have HXZ := Lib.hid hxz
          by_cases hjn : j < n
          · have hjni : (j : Int) < n := by omega
            have hjnd : decide ((j : Int) < n) = true := by simpa using hjni
            obtain ⟨b', hbk⟩ : ∃ x, l[j]? = some x := ⟨_, List.getElem?_eq_getElem (by rw [HLN.out]; exact hjn)⟩
            obtain ⟨jb, jo, jc', hv2, j0⟩ := bool_get (HIB.out wr (X2.trans hxz)) hbk
            rw [HLN.out] at hv2
            simp only [Value.slice.injEq] at hv2
            obtain ⟨rfl, -, rfl⟩ := hv2
            have hbb : b = b' := by rw [hb, hbk]; cases b' <;> rfl
            subst hbb
            clear hb hbk hxz
            cases b
            all_goals
              simp only [if_true, if_false, Bool.false_eq_true] at hand
              go_upto_region 18 with fail
              go_quiet (fail)
              clear e1 e2 e4 e5 e6 hx1
              go_wp2_with fail
              go_roundw
              case rel => exact ⟨j + 1, by omega, by go_num, HXZ.out.drewN _⟩
              case measure => simp [intOf]; omega
          · have hjni : ¬ (j : Int) < n := by omega
            have hjnd : decide ((j : Int) < n) = false := by simpa using hjni
            have hbb : b = false := by rw [hb, List.getElem?_eq_none (by rw [HLN.out]; omega)]; rfl
            subst hbb
            clear hb hxz
            simp only [if_false, Bool.false_eq_true] at hand
            go_upto_region 18 with fail
            go_quiet (fail)
            clear e1 e2 e4 e5 e6 hx1
            go_wp2_with fail
            go_roundw
            case rel => exact ⟨j + 1, by omega, by go_num, HXZ.out.drewN _⟩
            case measure => simp [intOf]; omega
        · have hji : ¬ (j : Int) < 8 * nb := by omega
          go_wp2_with fail
          go_ret
          exact ⟨rfl, X2.trans hxz⟩
end Go.Proofs.Ytjaofbfppnmdjaa
