/- Contracts of layer 11: bit strings as bytes. -/
import Derived.Test.YtjaofbfppnmdjaaDatA
import Derived.Test.YtjaofbfppnmdjaaReg
namespace Go.Proofs.Ytjaofbfppnmdjaa
open Go.RowKit
attribute [local go_sem ↓] Go.wp_at_zero Go.wp_at_succ

theorem byte_at (s : ByteArray) (k : Nat) (h : k < s.size) : s.data.toList.getD k 0 = s[k] := by
  rw [List.getD_eq_getElem?_getD, List.getElem?_eq_getElem (by simpa using h)]
  rfl
theorem bitV_yes (s : ByteArray) (k : Nat) (h : k < s.size) (hb : s[k].toNat = 49) (j : Nat) : bitV s (k + 1) j = if k / 8 = j then orB (bitV s k j) k else bitV s k j := by
  have h1 : s.data.toList.getD k 0 = 49 := by rw [byte_at s k h]; exact UInt8.toNat_inj.1 hb
  simp only [bitV, h1, and_true]
theorem bitV_no (s : ByteArray) (k : Nat) (h : k < s.size) (hb : s[k].toNat ≠ 49) (j : Nat) : bitV s (k + 1) j = bitV s k j := by
  have h1 : ¬ s.data.toList.getD k 0 = 49 := by rw [byte_at s k h]; intro e; exact hb (by rw [e]; rfl)
  simp only [bitV, h1, and_false, if_false]
/-- The bytes of a bit string, of which the first k bits are laid. -/
def bitL (s : ByteArray) (k : Nat) (i : Nat) : Int := if i = 0 then (padB s.size : Int) else bitV s k (i - 1)
theorem bitsB_len (s : ByteArray) : (bitsB s).length = 1 + (s.size + 7) / 8 := by simp [bitsB]; omega
theorem bitsB_get (s : ByteArray) (i : Nat) (h : i < 1 + (s.size + 7) / 8) : (bitsB s).getD i 0 = bitL s s.size i := by
  unfold bitL bitsB
  cases i with
  | zero => simp
  | succ i => simp [List.getD_eq_getElem?_getD, show i < (s.size + 7) / 8 by omega]
theorem bitsB_byt (s : ByteArray) : Byt (bitsB s) := fun x hx => by
  simp only [bitsB, List.mem_cons, List.mem_map] at hx
  rcases hx with rfl | ⟨j, _, rfl⟩
  · have := padB_le s.size; omega
  · exact bitV_le s _ _
set_option maxRecDepth 100000 in
set_option maxHeartbeats 4000000 in
theorem dataBits_any (s : ByteArray) (w : World) (hs : s.size ≤ 64) : Calls Try.prog 114 #[.string s] w (RetB w (bitsB s)) := by
  obtain ⟨nb, hnb⟩ : ∃ nb, (s.size + 7) / 8 = nb := ⟨_, rfl⟩
  obtain ⟨cur, hcs, hc0, hmk⟩ := make_bytes (1 + nb) (by omega)
  have hl : (bitsB s).length = 1 + nb := by rw [bitsB_len, hnb]
  have HL := Lib.hid hl
  have HG := Lib.hid (fun i (h : i < 1 + nb) => bitsB_get s i (by rw [hnb]; exact h))
  have HBY := Lib.hid (bitsB_byt s)
  have HP : Hid ((padB s.size : Int) = 8 * nb - s.size) := by show (padB s.size : Int) = _; unfold padB; omega
  have hpl := padB_le s.size
  have hn8 : ((s.size : Int) + 7) / 8 = nb := by omega
  have hb8 : nb ≤ 8 := by omega
  have hbs : 8 * nb ≤ s.size + 7 ∧ s.size ≤ 8 * nb := by omega
  obtain ⟨hbs1, hbs2⟩ := hbs
  have HCS := Lib.hid hcs
  have HC0 := Lib.hid hc0
  have hc00 := hc0 0 (by omega)
  have hcz : 0 < cur.size := by omega
  have hm1 : ∀ W : World, (Instr.makeSlice 25 (.int .i64 (1 + (nb : Int))) (.int .i64 (1 + (nb : Int)))).run Try.prog W = .ok (.slice (some ⟨W.heap.size, 0, none⟩) (1 + nb) (1 + nb)) (W.alloc (.cells cur 5)) := fun W => by
    have := hmk W
    rw [show ((1 + nb : Nat) : Int) = 1 + (nb : Int) by omega] at this
    exact this
  have HNB := Lib.hid hnb
  clear hcs hc0 hl hmk hnb
  go_enter Try.func114, Try.ntmps114
  go_wp2
  have HB := Lib.hid (Bk.new w (cur.setIfInBounds 0 (.int .u8 (8 * (nb : Int) - s.size))) 5 w.heap.size rfl)
  have HX := Lib.hid ((Ext.refl w).alloc (.cells (cur.setIfInBounds 0 (.int .u8 (8 * (nb : Int) - s.size))) 5))
  generalize w.alloc (.cells (cur.setIfInBounds 0 (.int .u8 (8 * (nb : Int) - s.size))) 5) = W at *
  clear hm1 hn8
  go_loopw [5, 23] (fun _ i wr => ∃ (k : Nat) (cs : Array Value), k ≤ s.size ∧ i = .int .i64 k ∧ Bk wr w.heap.size 5 cs ∧ cs.size = 1 + nb ∧ (∀ q : Nat, q < 1 + nb → cs[q]? = some (.int .u8 (bitL s k q))) ∧ Ext w wr) (fun _ i _ => s.size - (intOf i).toNat)
  case atStart =>
    refine ⟨0, _, by omega, rfl, HB.out, by simp [HCS.out], fun q hq => ?_, HX.out⟩
    cases q with
    | zero =>
      rw [Array.getElem?_setIfInBounds_self_of_lt (by rw [HCS.out]; omega)]
      unfold bitL
      rw [if_pos rfl, HP.out]
    | succ q =>
      rw [Array.getElem?_setIfInBounds_ne (by omega), HC0.out (q + 1) hq]
      unfold bitL
      rw [if_neg (by omega)]
      rfl
  case round =>
    obtain ⟨k, cs, hk, rfl, hbk, hsz, hall, hx⟩ := hrel
    by_cases hlt : k < s.size
    · have hki : (k : Int) < s.size := by omega
      by_cases hb : s[k].toNat = 49
      · have HV := Lib.hid (bitV_yes s k hlt hb)
        have hbe : ((s[k].toNat : Int) == 49) = true := by simp only [beq_iff_eq]; omega
        have h1 : (k : Int) / 8 < nb := by omega
        have h2 : (0 : Int) ≤ (k : Int) / 8 := by omega
        have h3 : (1 + (k : Int) / 8).toNat = 1 + k / 8 := by omega
        have h4 : ((k : Int) % 8).toNat = k % 8 := by omega
        have h5 : (1 + (k : Int) / 8) < ((1 + nb : Nat) : Int) := by omega
        have h6 : (0 : Int) ≤ 1 + (k : Int) / 8 := by omega
        have q0 : wr.cell? ⟨w.heap.size, 1 + k / 8, none⟩ = some (.int .u8 (bitV s k (k / 8))) := (hbk.cell _).trans ((hall (1 + k / 8) (by omega)).trans (by unfold bitL; rw [if_neg (by omega), show 1 + k / 8 - 1 = k / 8 by omega]))
        have f0 := hbk.frozen (1 + k / 8)
        have e1 : IntKind.i64.wrap ((k : Int) / 8) = (k : Int) / 8 := IntWalk.i64_in _ (by omega)
        have e2 : IntKind.i64.wrap (1 + (k : Int) / 8) = 1 + (k : Int) / 8 := IntWalk.i64_in _ (by omega)
        have e3 : IntKind.i64.wrap ((k : Int) % 8) = (k : Int) % 8 := IntWalk.i64_in _ (by omega)
        have e4 : (k : Int).tmod 8 = (k : Int) % 8 := Int.tmod_eq_emod_of_nonneg (by omega)
        have h7 : (0 : Int) ≤ (k : Int) % 8 := by omega
        have h8 : (k : Int) % 8 ≤ 8 := by omega
        have HBK := Lib.hid hbk
        have HSZ := Lib.hid hsz
        have HALL := Lib.hid hall
        have HXX := Lib.hid hx
        clear hbk hsz hall hb hx
        go_upto_region 8 with fail
        refine wp_region_callN 11 (by kernel_rfl) (by kernel_rfl) ?_
        simp only [List.take_succ_cons, List.take_zero, List.drop_succ_cons, List.drop_zero]
        repeat still_step
        refine wpStill_nil ?_
        go_wp2_with fail
        refine NoPanic.normal ?_
        clear e1 e2 e3 e4
        go_wp2_with fail
        go_roundw
        case rel =>
          refine ⟨k + 1, cs.setIfInBounds (1 + k / 8) (.int .u8 (orB (bitV s k (k / 8)) k)), by omega, by go_num, HBK.out.drew.setCell _ _, by simp [HSZ.out], fun q hq => ?_, HXX.out.drew.setCell (Nat.le_refl _) _⟩
          by_cases hqj : q = 1 + k / 8
          · subst hqj
            rw [Array.getElem?_setIfInBounds_self_of_lt (by rw [HSZ.out]; exact hq)]
            unfold bitL
            rw [if_neg (by omega), show 1 + k / 8 - 1 = k / 8 by omega, HV.out (k / 8), if_pos rfl]
          · rw [Array.getElem?_setIfInBounds_ne (Ne.symm hqj), HALL.out q hq]
            unfold bitL
            by_cases hq0 : q = 0
            · rw [if_pos hq0, if_pos hq0]
            · rw [if_neg hq0, if_neg hq0, HV.out (q - 1), if_neg (by omega)]
        case measure => simp [intOf]; omega
      · have HV := Lib.hid (bitV_no s k hlt hb)
        have hbe : ((s[k].toNat : Int) == 49) = false := by simp only [beq_eq_false_iff_ne, ne_eq]; omega
        have HBK := Lib.hid hbk
        have HSZ := Lib.hid hsz
        have HALL := Lib.hid hall
        have HXX := Lib.hid hx
        clear hbk hsz hall hb hx
        go_wp2
        go_roundw
        case rel =>
          refine ⟨k + 1, cs, by omega, by go_num, HBK.out, HSZ.out, fun q hq => ?_, HXX.out⟩
          rw [HALL.out q hq]
          unfold bitL
          rw [HV.out]
        case measure => simp [intOf]; omega
    · have hki : ¬ (k : Int) < s.size := by omega
      obtain rfl : k = s.size := by omega
      have HF := Lib.hid (RetO.of_blk (w := w) (bs := bitsB s) hbk (by rw [HL.out]; exact hsz) (fun q hq => by rw [HL.out] at hq; rw [hall q hq, HG.out q hq]) (by rw [HL.out]; omega) hx)
      have HF2 := Lib.hid (HF.out.toB HBY.out)
      rw [HL.out] at HF2
      clear hbk hsz hall HF
      go_wp2
      go_ret
      exact HF2.out
theorem bitV_zero (s : ByteArray) : ∀ k j, k ≤ 8 * j → bitV s k j = 0
  | 0, _, _ => rfl
  | k + 1, j, h => by
    simp only [bitV]
    rw [if_neg (by intro h2; omega)]
    exact bitV_zero s k j (by omega)
def rowL (s : ByteArray) (k n : Nat) : List Value := (List.range n).map fun i => Value.int .u8 (bitL s k i)
theorem rowL_snoc (s : ByteArray) (k n : Nat) : rowL s k (n + 1) = rowL s k n ++ [.int .u8 (bitL s k n)] := by
  unfold rowL; rw [List.range_succ, List.map_append]; rfl
theorem rowL_get (s : ByteArray) (k n i : Nat) (h : i < n) : (rowL s k n)[i]? = some (.int .u8 (bitL s k i)) := by
  simp [rowL, h]
theorem rowL_end (s : ByteArray) : rowL s s.size (1 + (s.size + 7) / 8) = (bitsB s).map (Value.int .u8) := by
  apply List.ext_getElem (by simp [rowL, bitsB_len])
  intro i h1 h2
  have h3 : i < 1 + (s.size + 7) / 8 := by simpa [rowL] using h1
  have h4 : i < (bitsB s).length := by rw [bitsB_len]; exact h3
  have := bitsB_get s i h3
  rw [List.getD_eq_getElem?_getD, List.getElem?_eq_getElem h4] at this
  simp only [Option.getD_some] at this
  simp [rowL, this]
theorem rowL_no (s : ByteArray) (k n : Nat) (h : ∀ j, bitV s (k + 1) j = bitV s k j) : rowL s (k + 1) n = rowL s k n := by
  unfold rowL bitL
  simp only [h]
theorem rowL_yes (s : ByteArray) (k : Nat) (h : ∀ j, bitV s (k + 1) j = if k / 8 = j then orB (bitV s k j) k else bitV s k j) : rowL s (k + 1) (k / 8 + 2) = (rowL s k (k / 8 + 2)).set (k / 8 + 1) (.int .u8 (orB (bitV s k (k / 8)) k)) := by
  apply List.ext_getElem (by simp [rowL])
  intro i h1 h2
  have h3 : i < k / 8 + 2 := by simpa [rowL] using h1
  rw [List.getElem_set]
  simp only [rowL, List.getElem_map, List.getElem_range]
  by_cases hi : k / 8 + 1 = i
  · rw [if_pos hi]
    subst hi
    unfold bitL
    rw [if_neg (by omega), show k / 8 + 1 - 1 = k / 8 by omega, h, if_pos rfl]
  · rw [if_neg hi]
    unfold bitL
    by_cases h0 : i = 0
    · rw [if_pos h0, if_pos h0]
    · rw [if_neg h0, if_neg h0, h, if_neg (by omega)]
theorem own_at {w : World} {base : Nat} {e : TypeId} {v : Value} {n : Nat} {xs : List Value} (h : w.ownsRow base e 1 v n xs) (hn : 0 < n) : ∃ g c, v = .slice (some ⟨g, 0, none⟩) n c ∧ n ≤ c ∧ base ≤ g := by
  rcases h.2 with ⟨rfl, h0⟩ | ⟨g, cap, cur, rfl, hb, _, hc, _⟩
  · omega
  · exact ⟨g, cap, rfl, hc, hb⟩
theorem shl_or : ∀ r : Fin 8, (2 : Int) ^ (7 - r.1) % 256 = 128 / 2 ^ r.1 := by decide
set_option maxRecDepth 100000 in
set_option maxHeartbeats 4000000 in
theorem bitsR_any (s : ByteArray) (w : World) (hs : s.size ≤ 64) : Calls Try.prog 74 #[.string s] w (RetB w (bitsB s)) := by
  obtain ⟨i0, hi0, hz0, hz1, hz2⟩ := info_parts info_byte
  have HBY := Lib.hid (bitsB_byt s)
  have HL := Lib.hid (bitsB_len s)
  have HE := Lib.hid (rowL_end s)
  have hp : (8 - (s.size : Int) % 8) % 8 = (padB s.size : Int) := by unfold padB; omega
  have hpl := padB_le s.size
  have H0 : Hid (rowL s 0 1 = [.int .u8 (padB s.size : Int)]) := rfl
  generalize padB s.size = pd at *
  go_enter Try.func74, Try.ntmps74
  go_wp2
  have HO0 := Lib.hid (World.ownsRow_lit (base := w.heap.size) (e := 5) (size := 1) w #[.int .u8 (pd : Int)] 1 (Nat.le_refl _) (by unfold maxLen; omega) rfl)
  have HX0 := Lib.hid ((Ext.refl w).alloc (.cells #[.int .u8 (pd : Int)] 5))
  generalize w.alloc (.cells #[.int .u8 (pd : Int)] 5) = W at *
  clear hp
  generalize (8 - (s.size : Int) % 8) % 8 = z9
  generalize 8 - (s.size : Int) % 8 = z8
  generalize (s.size : Int) % 8 = z7
  go_loopw [3, 4] (fun v i wr => ∃ (k n : Nat), k ≤ s.size ∧ n = 1 + (k + 7) / 8 ∧ i = .int .i64 k ∧ wr.ownsRow w.heap.size 5 1 v n (rowL s k n) ∧ Ext w wr) (fun _ i _ => s.size - (intOf i).toNat)
  case atStart => exact ⟨0, 1, by omega, by omega, rfl, by rw [H0.out]; exact HO0.out, HX0.out⟩
  case round =>
    obtain ⟨k, n, hk, hn, rfl, hown, hx⟩ := hrel
    by_cases hlt : k < s.size
    · have hki : (k : Int) < s.size := by omega
      obtain ⟨g0, c0, rfl, hc0, hb0⟩ := own_at hown (by omega)
      have HO := Lib.hid hown
      have HX := Lib.hid hx
      obtain ⟨m, hm⟩ : ∃ m, m = k / 8 + 2 := ⟨_, rfl⟩
      have HM := Lib.hid hm
      have hm8 : m ≤ 10 := by omega
      have hm0 : 2 ≤ m := by omega
      have HN := Lib.hid hn
      have hn9 : n ≤ 9 := by omega
      clear hown hx hm hn
      go_upto_if 20 with fail
      go_cut [3] (fun v wx => ∃ (g c : Nat), v = .slice (some ⟨g, 0, none⟩) m c ∧ m ≤ c ∧ wx.ownsRow w.heap.size 5 1 (.slice (some ⟨g, 0, none⟩) m c) m (rowL s k m) ∧ Ext w wx)
      case first =>
        by_cases h8 : k % 8 = 0
        · have hz : bitL s k n = 0 := by
            have := HN.out
            unfold bitL
            rw [if_neg (by omega)]
            exact bitV_zero s k _ (by omega)
          have hmn : m = n + 1 := by have := HN.out; have := HM.out; omega
          have HR := Lib.hid (show rowL s k m = rowL s k n ++ [.int .u8 0] by rw [hmn, rowL_snoc, hz])
          have HMN := Lib.hid hmn
          have h8i : ((k : Int) % 8 == 0) = true := by simp only [beq_iff_eq]; omega
          generalize rowL s k n = xs at *
          clear hz hmn h8
          go_wp2_with (at_builtin; refine wpList_append_src _ rfl (.tmp 21) (.tmp 22) _ rfl w.heap.size 5 i0 _ 1 1 Try.underlying25 hi0 hz0 hz1 hz2 rfl (by omega) _ n xs rfl (HO.out.alloc _) _ 1 1 [.int .u8 0] rfl (Src.litB _ #[.int .u8 0] 5 1 _ (by simp) rfl (by simp [Value.oneCell'])) (by unfold maxLen; omega) (by omega) (by simp; exact Nat.le_succ_of_le HX.out.size) ?_; intro A1 c1 w1 hown1 hg1 hat1)
          have hX1 : Ext w w1 := (HX.out.alloc _).grown hg1 (fun g hg => (HO.out.lt g hg).1)
          obtain ⟨g2, c2, he, hc2, _⟩ := own_at hown1 (by omega)
          simp only [Value.slice.injEq] at he
          obtain ⟨rfl, -, rfl⟩ := he
          have HO1 := Lib.hid hown1
          clear hown1 hg1 hat1
          go_wp2_with fail
          go_meet
          rw [HR.out, HMN.out]
          exact ⟨g2, c1, rfl, hc2, HO1.out, hX1⟩
        · have h8i : ((k : Int) % 8 == 0) = false := by simp only [beq_eq_false_iff_ne, ne_eq]; omega
          have hmn : m = n := by have := HN.out; have := HM.out; omega
          have HMN := Lib.hid hmn
          clear h8 hmn
          go_wp2_with fail
          go_meet
          rw [HMN.out]
          exact ⟨g0, c0, rfl, hc0, HO.out, HX.out⟩
      case rest =>
        obtain ⟨g, c, rfl, hmc, hown, hx⟩ := hcut
        have HO2 := Lib.hid hown
        have HX2 := Lib.hid hx
        by_cases hb : s[k].toNat = 49
        · have hbe : ((s[k].toNat : Int) == 49) = true := by simp only [beq_iff_eq]; omega
          have HV := Lib.hid (rowL_yes s k (bitV_yes s k hlt hb))
          have q0 : wc.cell? ⟨g, m - 1, none⟩ = some (.int .u8 (bitV s k (k / 8))) := by
            rw [hown.cellAt (m - 1) (by omega), rowL_get s k m (m - 1) (by omega), HM.out]
            unfold bitL
            rw [if_neg (by omega), show k / 8 + 2 - 1 - 1 = k / 8 by omega]
          have f0 := hown.frozenAt (m - 1)
          have h1 : ((m : Int) - 1).toNat = m - 1 := by omega
          have h4 : (7 - (k : Int) % 8).toNat = 7 - k % 8 := by omega
          have h5 : (0 : Int) ≤ 7 - (k : Int) % 8 := by omega
          clear hown hx hb
          go_wp2_with fail
          go_roundw
          case rel =>
            refine ⟨k + 1, m, by omega, by have := HM.out; omega, by go_num, ?_, HX2.out.setCell (by have := (HO2.out.lt g rfl).1; exact this) _⟩
            have h9 := (HO2.out.stored (m - 1) (.int .u8 (orB (bitV s k (k / 8)) k))).1
            have h10 := HV.out
            rw [← HM.out] at h10
            rw [h10, show k / 8 + 1 = m - 1 by have := HM.out; omega]
            rw [shl_or ⟨k % 8, by omega⟩]
            exact h9
          case measure => simp [intOf]; omega
        · have hbe : ((s[k].toNat : Int) == 49) = false := by simp only [beq_eq_false_iff_ne, ne_eq]; omega
          have HV := Lib.hid (rowL_no s k m (bitV_no s k hlt hb))
          clear hown hx hb
          go_wp2_with fail
          go_roundw
          case rel => exact ⟨k + 1, m, by omega, by have := HM.out; omega, by go_num, by rw [HV.out]; exact HO2.out, HX2.out⟩
          case measure => simp [intOf]; omega
    · have hki : ¬ (k : Int) < s.size := by omega
      obtain rfl : k = s.size := by omega
      rw [hn, HE.out] at hown
      have hown2 : wr.ownsRow w.heap.size 5 1 u3 (bitsB s).length ((bitsB s).map (Value.int .u8)) := by rw [HL.out]; exact hown
      obtain ⟨a1, c1, rfl⟩ := owns_slice hown
      have HF : Hid (RetB w (bitsB s) (.returned (.slice a1 (1 + (s.size + 7) / 8) c1)) wr) := RetO.toB HBY.out ⟨a1, c1, by rw [HL.out], hx, by rw [HL.out] at hown2 ⊢; exact hown2⟩
      clear hown hown2 hx
      generalize 1 + (s.size + 7) / 8 = nn at *
      go_wp2_with fail
      go_ret
      exact HF.out
end Go.Proofs.Ytjaofbfppnmdjaa
