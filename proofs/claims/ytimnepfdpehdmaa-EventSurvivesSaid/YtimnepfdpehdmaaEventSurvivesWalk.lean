/- The walk of the statement EventSurvives. -/
import Derived.Test.YtimnepfdpehdmaaEvF
import Derived.Test.YtimnepfdpehdmaaTS
import Derived.Test.YtimnepfdpehdmaaOpenLst
import Derived.RegionTactic
import Derived.BigRegion
import Derived.Deep.DeepCutAuto
import Derived.Deep.CutBlock
import Derived.Deep.RegionHeld3
import Derived.LoopN
namespace Go.Proofs.Ytimnepfdpehdmaa
open Go.RowKit
attribute [local go_sem ↓] Go.wp_at_zero Go.wp_at_succ

theorem w64_up {i n : Nat} (h : i < n) (hn : n ≤ 90) : wrap64 ((i : Int) + 1) = i + 1 := by unfold wrap64; omega
theorem idx_up {i n : Nat} (h : i < n) (hn : n ≤ 90) : Value.int .i64 (wrap64 ((i : Int) + 1)) = .int .i64 ((i + 1 : Nat) : Int) := by rw [w64_up h hn]; rfl
theorem mes_up {i n : Nat} (h : i < n) (hn : n ≤ 90) : n - (intOf (Value.int .i64 (wrap64 ((i : Int) + 1)))).toNat < n - (intOf (Value.int .i64 (i : Int))).toNat := by
  rw [w64_up h hn]
  simp only [intOf]
  omega
theorem two_up {i : Nat} (h : i < 2) : 2 - (intOf (Value.int .i64 ((i : Int) + 1))).toNat < 2 - (intOf (Value.int .i64 (i : Int))).toNat := by
  simp only [intOf]
  omega
theorem and1023 (x : Int) : bits .and .i64 x 1023 = x % 1024 := by
  have h : (BitVec.ofInt 64 x &&& BitVec.ofInt 64 1023).toNat = (x % 1024).toNat := by
    rw [BitVec.toNat_and, show (BitVec.ofInt 64 1023).toNat = 2 ^ 10 - 1 by decide +kernel, Nat.and_two_pow_sub_one_eq_mod, BitVec.toNat_ofInt]
    have : ((2 ^ 64 : Nat) : Int) = 18446744073709551616 := by decide +kernel
    rw [this, show (2 : Nat) ^ 10 = 1024 by decide +kernel]
    omega
  show IntKind.i64.wrap (((BitVec.ofInt 64 x &&& BitVec.ofInt 64 1023).toNat : Nat) : Int) = _
  rw [h, IntKind.wrap_i64]
  omega
theorem sec_err (x : Int) : stErr (x % 1024) 0 0 = 0 := by
  unfold stErr
  rw [if_neg (by omega)]
theorem kdx_up {k : Nat} (h : k < 60) : Value.int .i64 (wrap64 ((k : Int) + 1)) = .int .i64 ((k + 1 : Nat) : Int) := by
  rw [show wrap64 ((k : Int) + 1) = k + 1 by unfold wrap64; omega]; rfl
theorem kes_up {k : Nat} (h : k < 60) : 61 - (intOf (Value.int .i64 (wrap64 ((k : Int) + 1)))).toNat < 61 - (intOf (Value.int .i64 (k : Int))).toNat := by
  rw [show wrap64 ((k : Int) + 1) = k + 1 by unfold wrap64; omega]
  simp only [intOf]
  omega
theorem kes_up2 {k : Nat} (h : k < 60) : 61 - (intOf (Value.int .i64 ((k : Int) + 1))).toNat < 61 - (intOf (Value.int .i64 (k : Int))).toNat := by
  simp only [intOf]
  omega
theorem StsA.new {fr : Nat} {xs : List St} (h : ∀ (j : Nat) x, xs[j]? = some x → x = ⟨[], newSub 5 77⟩) : StsA fr (-1) [] 0 xs := fun j x hx => by
  have := h j x hx
  subst this
  by_cases he : j = fr
  · exact .inl ⟨he, rfl⟩
  · exact .inr ⟨he, Rcv.new _ _⟩
theorem intL_get {V : Nat → Prop} {w : World} {v : Value} {l : List Int} (h : RF V 1 intE w v l) {i : Nat} {x : Int} (hx : l[i]? = some x) : ∃ b off c, v = .slice (some ⟨b, off, none⟩) l.length c ∧ w.cell? ⟨b, off + i, none⟩ = some (.int .i64 x) := by
  obtain ⟨b, off, c, hv, _, _, hc⟩ := h.get hx
  have := hc 0 _ rfl
  rw [Nat.mul_one, Nat.add_zero] at this
  exact ⟨b, off, c, hv, this⟩
theorem range_map {n : Nat} {g : Nat → Bool} {i : Nat} {x : Bool} (h : ((List.range n).map g)[i]? = some x) : i < n ∧ g i = x := by
  rw [List.getElem?_map] at h
  by_cases hi : i < n
  · rw [List.getElem?_range hi] at h
    simp only [Option.map_some, Option.some.injEq] at h
    exact ⟨hi, h⟩
  · rw [List.getElem?_eq_none (by simp; omega)] at h
    cases h
theorem reached_at {w1 : World} {Q n fr : Nat} {g : Nat → Bool} (h3 : 3 ≤ n) (h14 : n ≤ 14) (hfr : fr < n) (hone : One n g) (T : TRow w1 Q n g) : Calls Try.prog 17 #[.agg #[.slice (some ⟨Q, 0, none⟩) n n], .int .i64 (fr : Int)] w1 fun e w' => ∃ B, e = .returned (.slice (some ⟨B, 0, none⟩) n n) ∧ Ext w1 w' ∧ w1.heap.size ≤ B ∧ TRow w' B n (fun _ => true) :=
  reached_any Q 0 n n fr ((List.range n).map g) w1 h3 (by omega) (by simp) hfr (fun i j hi hj => by
    obtain ⟨h1, h2⟩ := range_map hi
    obtain ⟨k1, k2⟩ := range_map hj
    exact hone i j h1 k1 h2 k2) (fun j x hx => by
    obtain ⟨h1, h2⟩ := range_map hx
    rw [Nat.zero_add, T.cell h1, h2])
theorem enc_at {m : Msg} (hfi : Fine m) {v : Value} {w1 : World} (h : RF Any 6 valE w1 v m.vals) : Calls Try.prog 12 #[msgA m v] w1 (fun e w' => ∃ a c, e = .returned (.tuple #[.slice a (encMB m).length c, .int .i64 0]) ∧ Ext w1 w' ∧ RB Any w' (.slice a (encMB m).length c) (encMB m)) :=
  (encMP_any m v w1 h).mono fun e w' ⟨a, c, he, hx, hr⟩ => ⟨a, c, by rw [he, hfi.enc], hx, hr Any (fun _ h => h.elim)⟩
theorem send_ev {m : Msg} (hfi : Fine m) {fr : Nat} {sq : Int} (hfr : fr ≤ 40) (hq : 0 ≤ sq ∧ sq ≤ 65535) {v : Value} {w1 : World} (h : RB Any w1 v (encMB m)) : Calls Try.prog 13 #[v, .int .i64 (fr : Int), .int .i64 sq] w1 (fun e w' => ∃ a0 c0 a1 c1, e = .returned (.tuple #[.agg #[.slice a0 ((encMB m).length + 8) c0, .slice a1 ((encMB m).length + 8) c1], .int .i64 ((sq + 1) % 65536), .int .i64 0]) ∧ Ext w1 w' ∧ RB (Old w1) w' (.slice a0 ((encMB m).length + 8) c0) (frame (encMB m) (fr : Int) sq 0) ∧ RB (Old w1) w' (.slice a1 ((encMB m).length + 8) c1) (frame (encMB m) (fr : Int) sq 1)) := by
  refine (sendP_any (encMB m) v (fr : Int) sq w1 h).mono fun e w' hh => ?_
  have hl := encMB_len hfi.chk hfi.enc
  have hw : (word (fr : Int) && word sq) = true := by
    unfold word
    rw [decide_eq_true (by omega), decide_eq_true (by omega), decide_eq_true (by omega), decide_eq_true (by omega)]
    rfl
  unfold sendT at hh
  rw [if_neg (by rw [hw]; simp), if_neg (by omega)] at hh
  obtain ⟨a0, c0, a1, c1, he, hx, r0, r1⟩ := hh
  simp only [frame_len] at he r0 r1
  exact ⟨a0, c0, a1, c1, he, hx, r0, r1⟩
theorem TRow.putOther {RX n B : Nat} {g : Nat → Bool} (hB : B ≠ RX) : ∀ (vs : List Value) (j : Nat) (W : World), TRow W RX n g → TRow (put W B j vs) RX n g
  | [], _, _, h => h
  | v :: vs, j, W, h => by rw [put]; exact TRow.putOther hB vs (j + 1) _ (h.setOther hB j v)
/-- The plain part of the outer loop's relation. -/
structure Erel (fr n k : Nat) (p : PSt) (H : List Snt) (xs : List St) : Prop where
  pi : Pinv ((k : Int) - 1) p H
  hl : H.length ≤ k
  xl : xs.length = n
  st : StsA fr ((k : Int) - 1) H H.length xs
set_option maxRecDepth 100000 in
set_option maxHeartbeats 32000000 in
theorem event_walk (a b c d : Int) (l : List (Int × Int)) (lo : List Int) (v vo : Value) (w : World) (hl : RF Any 2 inpE w v l) (hlo : RF Any 1 intE w vo lo) : Calls Try.prog 4 #[.agg #[.int .i64 a, .int .i64 b, .int .i64 c, .int .i64 d], v, vo] w fun e w' => e = .returned (.bool true) ∧ Ext w w' := by
  have HF := Lib.hid (fun w1 => fine17_any a b c d w1)
  have HNP := Lib.hid (fun w1 => new_any 5 2 9 77 w1 (by omega) (by omega) (by omega) (by omega) (by omega) (by omega) (by omega) (by omega))
  have HNS := Lib.hid (fun w1 => newSub_any 5 77 w1)
  simp only [newS, newSub] at HNP HNS
  have HIN := Lib.hid (fun w1 (he : Ext w w1) => hl.ext he)
  have HIO := Lib.hid (fun w1 (he : Ext w w1) => hlo.ext he)
  obtain ⟨ia, ic, rfl, hi1, hi2⟩ := hl.form
  obtain ⟨ja, jc, rfl, hj1, hj2⟩ := hlo.form
  unfold maxLen at hi2 hj2
  clear hl hlo
  generalize hln : l.length = ln at *
  have HLN := Lib.hid hln
  generalize hlm : lo.length = lm at *
  have HLM := Lib.hid hlm
  clear hln hlm
  go_enter Try.func4, Try.ntmps4
  go_wp2_with fail
  refine (HF.out _).mono ?_
  rintro e w1 ⟨n, fr, A, B, gA, gB, h3, h14, hfr, rfl, x1, tA, tB, oA, oB⟩
  have X1 := Lib.hid (((Ext.refl w).alloc (.cells #[.int .i64 a, .int .i64 b, .int .i64 c, .int .i64 d] 63)).trans x1)
  have TA := Lib.hid (And.intro tA oA)
  have TB := Lib.hid (And.intro tB oB)
  have HN := Lib.hid (show 3 ≤ n ∧ n ≤ 14 ∧ fr < n from ⟨h3, h14, hfr⟩)
  clear h3 h14 hfr x1 tA tB oA oB
  go_upto_region 2 with fail
  have BR := Lib.hid (Bk.new w1 #[.slice (some ⟨A, 0, none⟩) n n, .slice (some ⟨B, 0, none⟩) n n] 66 w1.heap.size rfl)
  have X0 := Lib.hid (X1.out.alloc (.cells #[.slice (some ⟨A, 0, none⟩) n n, .slice (some ⟨B, 0, none⟩) n n] 66))
  have TA0 := Lib.hid (And.intro (TA.out.1.ext ((Ext.refl w1).alloc (.cells #[.slice (some ⟨A, 0, none⟩) n n, .slice (some ⟨B, 0, none⟩) n n] 66))) TA.out.2)
  have TB0 := Lib.hid (And.intro (TB.out.1.ext ((Ext.refl w1).alloc (.cells #[.slice (some ⟨A, 0, none⟩) n n, .slice (some ⟨B, 0, none⟩) n n] 66))) TB.out.2)
  clear X1 TA TB
  generalize w1.alloc (.cells #[.slice (some ⟨A, 0, none⟩) n n, .slice (some ⟨B, 0, none⟩) n n] 66) = W0 at *
  generalize w1.heap.size = GB at *
  go_wp2_with fail
  refine (HNP.out _).mono ?_
  rintro e w2 ⟨rfl, x2⟩
  go_upto_region 3 with fail
  obtain ⟨cur, hcl, hc0, hmk⟩ := make_stations n (by have := HN.out; omega)
  have HC := Lib.hid (And.intro hcl hc0)
  have hn0 : (0 : Int) ≤ n := Int.natCast_nonneg n
  clear hcl hc0
  go_upto_block 0 with fail
  have M1 := Lib.hid (show EMem W0 ((w2.alloc (.cells #[.int .i64 5, .int .i64 2, .int .i64 9, .int .i64 77, .bool false, .int .i64 0, .int .i64 0, .int .i64 0, .int .i64 0, .int .i64 0, .int .i64 0, .int .i64 0, .slice none 0 0] 29)).alloc (.cells cur.toArray 40)) w2.heap.size (w2.heap.size + 1) (newS 5 2 9 77) (.slice none 0 0) (List.replicate n ⟨[], newSub 0 0⟩) from by
    refine ⟨(x2.alloc _).alloc _, ⟨x2.size, by have := x2.size; omega, by omega⟩, (Bk.new w2 #[.int .i64 5, .int .i64 2, .int .i64 9, .int .i64 77, .bool false, .int .i64 0, .int .i64 0, .int .i64 0, .int .i64 0, .int .i64 0, .int .i64 0, .int .i64 0, .slice none 0 0] 29 w2.heap.size rfl).alloc _, RF.nil _ _ _ _, cur, Bk.new _ _ _ _ (by simp), by rw [List.length_replicate]; exact HC.out.1, fun i x hx => ?_⟩
    rw [List.getElem?_replicate] at hx
    split at hx
    · rename_i hin
      injection hx with hx
      subst hx
      exact ⟨none, 0, none, 0, HC.out.2 i hin, RF.nil _ _ _ _, RF.nil _ _ _ _⟩
    · cases hx)
  clear x2 HC hmk
  generalize (w2.alloc (.cells #[.int .i64 5, .int .i64 2, .int .i64 9, .int .i64 77, .bool false, .int .i64 0, .int .i64 0, .int .i64 0, .int .i64 0, .int .i64 0, .int .i64 0, .int .i64 0, .slice none 0 0] 29)).alloc (.cells cur.toArray 40) = W1 at *
  generalize w2.heap.size + 1 = BN at *
  generalize w2.heap.size = BP at *
  go_cut [13] (fun _ wx => ∃ xs : List St, xs.length = n ∧ (∀ (j : Nat) x, xs[j]? = some x → x = ⟨[], newSub 5 77⟩) ∧ EMem W0 wx BP BN (newS 5 2 9 77) (.slice none 0 0) xs)
  case first =>
    go_wp2_with fail
    go_loopw [13] (fun s wr => ∃ (i : Nat) (xs : List St), i ≤ n ∧ s = .int .i64 i ∧ xs.length = n ∧ EMem W0 wr BP BN (newS 5 2 9 77) (.slice none 0 0) xs ∧ ∀ (j : Nat) x, xs[j]? = some x → x.box = [] ∧ (j < i → x = ⟨[], newSub 5 77⟩)) (fun s _ => n - (intOf s).toNat)
    case atStart => exact ⟨0, _, by omega, rfl, List.length_replicate, M1.out, fun j x hx => by
      rw [List.getElem?_replicate] at hx
      split at hx
      · injection hx with hx; subst hx; exact ⟨rfl, fun h => by omega⟩
      · cases hx⟩
    case round =>
      obtain ⟨i, xs, hi, rfl, hxl, hM, hxs⟩ := hrel
      have HM := Lib.hid hM
      have HXS := Lib.hid hxs
      have HXL := Lib.hid hxl
      clear M1 hM hxs hxl
      by_cases hlt : i < n
      · have hli : (i : Int) < n := by omega
        have hli0 : (0 : Int) ≤ i := by omega
        obtain ⟨x, hx⟩ : ∃ x, xs[i]? = some x := ⟨_, List.getElem?_eq_getElem (by rw [HXL.out]; exact hlt)⟩
        have HXI := Lib.hid hx
        clear hx
        go_wp2_with fail
        refine (HNS.out _).mono ?_
        rintro e w3 ⟨rfl, x3⟩
        have M3 := Lib.hid (HM.out.to x3)
        obtain ⟨ca, cc, ca', cc', hcell, _, _⟩ := M3.out.sn.get HXI.out
        have ff := fun j => M3.out.sn.frozen j
        have c1 := hcell 1 (by omega)
        have c2 := hcell 2 (by omega)
        have c3 := hcell 3 (by omega)
        have c4 := hcell 4 (by omega)
        have c5 := hcell 5 (by omega)
        have c6 := hcell 6 (by omega)
        have c7 := hcell 7 (by omega)
        have c8 := hcell 8 (by omega)
        have c9 := hcell 9 (by omega)
        clear hcell x3 HM
        simp only [List.getElem?_toArray, List.getElem?_cons_zero, List.getElem?_cons_succ] at c1 c2 c3 c4 c5 c6 c7 c8 c9
        go_wp2_with fail
        have M4 := (show EMem W0 (putB w3 BN (i * 10 + 1) 0 [.int .i64 5, .int .i64 77, .bool false, .int .i64 0, .int .i64 0, .int .i64 0, .int .i64 0, .bool false, .slice none 0 0]) BP BN (newS 5 2 9 77) (.slice none 0 0) (xs.set i ⟨[], newSub 5 77⟩) from by
          rw [putB_eq]
          have h := M3.out.putS HXI.out (u := newSub 5 77) (a' := none) (c' := 0) (RF.nil _ _ _ _)
          rw [(HXS.out i x HXI.out).1] at h
          exact h)
        obtain ⟨w4, hW9⟩ : ∃ w9, putB w3 BN (i * 10 + 1) 0 [.int .i64 5, .int .i64 77, .bool false, .int .i64 0, .int .i64 0, .int .i64 0, .int .i64 0, .bool false, .slice none 0 0] = w9 := ⟨_, rfl⟩
        have hW8 := hW9
        simp only [putB, Nat.reduceAdd, Nat.add_zero] at hW8
        rw [hW8]
        rw [hW9] at M4
        clear hW8 hW9
        have R1 : i + 1 ≤ n := hlt
        have R4 := mes_up hlt (show n ≤ 90 by have := HN.out; omega)
        have R3 := idx_up hlt (show n ≤ 90 by have := HN.out; omega)
        go_roundw
        case rel => exact ⟨i + 1, xs.set i ⟨[], newSub 5 77⟩, R1, R3, by rw [List.length_set]; exact HXL.out, M4, fun j y hy => by
          by_cases he : j = i
          · subst he
            rw [List.getElem?_set_self (by rw [HXL.out]; exact hlt)] at hy
            injection hy with hy
            subst hy
            exact ⟨rfl, fun _ => rfl⟩
          · rw [List.getElem?_set_ne (fun e => he e.symm)] at hy
            have := HXS.out j y hy
            exact ⟨this.1, fun h => this.2 (by omega)⟩⟩
        case measure => exact R4
      · have hli : ¬ (i : Int) < n := by omega
        go_wp2_with fail
        go_meet
        exact ⟨xs, HXL.out, fun j x hx => (HXS.out j x hx).2 (by have := get_lt hx; have := HXL.out; omega), HM.out⟩
  case rest =>
    obtain ⟨xs, hxl, hxs, hM⟩ := hcut
    obtain ⟨W2, hW2⟩ : ∃ W, W = wc := ⟨_, rfl⟩
    subst hW2
    have M2 := Lib.hid hM
    have HX0 := Lib.hid (And.intro hxl hxs)
    clear hM hxl hxs M1 HF HNP HNS
    go_upto_block 2 with fail
    go_wp2_with fail
    go_loopw [14, 15] (fun sq sk wr => ∃ (k : Nat) (p : PSt) (xs : List St) (H : List Snt) (vp : Value), k ≤ 60 ∧ k ≤ ln ∧ sk = .int .i64 k ∧ sq = .int .i64 ((65530 + (H.length : Int)) % 65536) ∧ Erel fr n k p H xs ∧ EMem W0 wr BP BN p vp xs) (fun _ i _ => 61 - (intOf i).toNat)
    case atStart => exact ⟨0, _, xs, [], _, by omega, by omega, rfl, rfl, ⟨Pinv.new, by simp, HX0.out.1, StsA.new HX0.out.2⟩, M2.out⟩
    case round =>
      rename_i Qf Kf aKf
      revert a b c d l lo w ia ic hi2 ja jc hj2 ln HIN hi1 HLN lm HIO hj1 HLM Qf w1 n fr A B gA gB HN W0 X0 TA0 TB0 GB BR w2 cur hn0 W1 BN BP u13 u42 u43 u44 u45 u46 u47 u48 u49 u50 u51 xs W2 M2 HX0 Kf aKf wr u6 u14 u15 u16 u17 u18 u19 u20 u21 u22 u23 u24 u25 u26 u27 u28 u29 u52 u53 u54 u55 u56 u57 u58 u59 u60 u61 u62 u63 u64 u65 u66 u67 u68 u69 u70 u71 u72 u73 u74 u75 u76 u77 u78 u79 u80 u81 u82 u83 u84 u85 u86 u87 u88 u89 u90 u91 u92 u93 u94 u95 u96 u97 u98 u99 u100 u101 u102 u103 u104 u105 u106 u107 u108 u109 u110 u111 u112 u113 u114 u115 u116 u117 u118 u119 u120 u121 u122 u123 u124 u125 u126 u127 u128 u129 u130 u131 u132 u133 u134 u135 u136 u137 u138 u139 u140 u141 u142 u143 u144 u145 u146 u147 u148 u149 u150 u151 u152 u153 u154 u155 u156 u157 u158 u159 u160 u161 u162 u163 u164 u165 u166 u167 u168 u169 u170 u171 u172 u173 u174 u175 u176 u177 u178 u179 u180 u181 u182 u183 u184 u185 u186 u187 u188 u189 u190 u191 u192 u193 u194 u195 u196 u197 u198 u199 u200 u201 u202 u203 u204 u205 u206 u207 u208 u209 u210 u211 u212 u213 u214 hrel
      refine id ?_
      intro a b c d l lo w ia ic hi2 ja jc hj2 ln HIN hi1 HLN lm HIO hj1 HLM Qf w1 n fr A B gA gB HN W0 X0 TA0 TB0 GB BR w2 cur hn0 W1 BN BP u13 u42 u43 u44 u45 u46 u47 u48 u49 u50 u51 xs W2 M2 HX0 Kf aKf wr u6 u14 u15 u16 u17 u18 u19 u20 u21 u22 u23 u24 u25 u26 u27 u28 u29 u52 u53 u54 u55 u56 u57 u58 u59 u60 u61 u62 u63 u64 u65 u66 u67 u68 u69 u70 u71 u72 u73 u74 u75 u76 u77 u78 u79 u80 u81 u82 u83 u84 u85 u86 u87 u88 u89 u90 u91 u92 u93 u94 u95 u96 u97 u98 u99 u100 u101 u102 u103 u104 u105 u106 u107 u108 u109 u110 u111 u112 u113 u114 u115 u116 u117 u118 u119 u120 u121 u122 u123 u124 u125 u126 u127 u128 u129 u130 u131 u132 u133 u134 u135 u136 u137 u138 u139 u140 u141 u142 u143 u144 u145 u146 u147 u148 u149 u150 u151 u152 u153 u154 u155 u156 u157 u158 u159 u160 u161 u162 u163 u164 u165 u166 u167 u168 u169 u170 u171 u172 u173 u174 u175 u176 u177 u178 u179 u180 u181 u182 u183 u184 u185 u186 u187 u188 u189 u190 u191 u192 u193 u194 u195 u196 u197 u198 u199 u200 u201 u202 u203 u204 u205 u206 u207 u208 u209 u210 u211 u212 u213 u214 hrel
      clear HX0 M2
      clear xs
      obtain ⟨k, p, xs, H, vp, hk60, hkl, rfl, rfl, hE, hM⟩ := hrel
      have HE := Lib.hid hE
      have HM := Lib.hid hM
      clear hE hM
      obtain ⟨sq, hsq⟩ : ∃ q : Int, q = (65530 + (H.length : Int)) % 65536 := ⟨_, rfl⟩
      rw [← hsq]
      have HSQ := Lib.hid hsq
      clear hsq
      by_cases hlt1 : k < ln ∧ k < 60
      · have hk1 : (k : Int) < ln := by omega
        have hk2 : (k : Int) < 60 := by omega
        have hk0 : (0 : Int) ≤ k := by omega
        obtain ⟨⟨xa, xb⟩, hxk⟩ : ∃ x, l[k]? = some x := ⟨_, List.getElem?_eq_getElem (by rw [HLN.out]; exact hlt1.1)⟩
        have HXK := Lib.hid hxk
        obtain ⟨ib, io, ic', hv1, i0, -⟩ := inp_get (HIN.out wr (X0.out.trans HM.out.ext)) hxk
        rw [HLN.out] at hv1
        simp only [Value.slice.injEq] at hv1
        obtain ⟨rfl, -, rfl⟩ := hv1
        simp only at i0
        clear hxk
        have HV := Lib.hid (fun w1 => values_any xa w1)
        obtain ⟨hd1, hd2, hd3⟩ := dat_vals xa
        clear hd1 hd3
        generalize hnl : (valsI xa).length = nl at *
        have HNL := Lib.hid hnl
        clear hnl
        go_wp2_with fail
        refine (HV.out _).mono ?_
        rintro e w4 ⟨a4, c4, he, x4, r4⟩
        simp only [HNL.out] at he r4
        subst he
        have R4 := Lib.hid (r4.weak (by omega) (V' := EV BP BN) (fun g _ h => HM.out.lt g h))
        replace HM := Lib.hid (HM.out.to x4)
        have i1 := (inp_get (HIN.out w4 (X0.out.trans HM.out.ext)) HXK.out)
        obtain ⟨ib', io', ic2, hv1, -, i1⟩ := i1
        rw [HLN.out] at hv1
        simp only [Value.slice.injEq, Option.some.injEq, Addr.mk.injEq] at hv1
        obtain ⟨⟨rfl, rfl, -⟩, -, -⟩ := hv1
        simp only at i1
        clear i0 x4 r4
        generalize w4 = wr at *
        have hG := HE.out.pi.good
        have hmod : Mod p := by
          have hb := hG.bnd
          have h0 : 0 ≤ p.state ∧ p.state ≤ 3000 ∧ 0 ≤ p.seq ∧ p.seq ≤ 3000 := by
            cases hs : p.started
            · have := hG.off hs; omega
            · have := hG.on hs; omega
          exact ⟨by omega, by omega, by omega⟩
        have hsec := and1023 xb
        have HSt := Lib.hid (fun w1 v u h1 h2 => step_any p (valsI xa) (xb % 1024) 0 0 v u w1 h1 h2 (by have := hG.vl; omega) (by rw [HNL.out]; omega) hmod)
        have hP := Pinv.step (by omega) HE.out.pi xa (xb % 1024) 0 0 (sec_err xb)
        have hP2 : ∀ m, (stepS p (valsI xa) (xb % 1024) 0 0).2 = [m] → ∀ s, H[H.length - 1]? = some s → Succ1 s.m m := fun m => Pinv.succ (by omega) HE.out.pi xa (xb % 1024) 0 0 (sec_err xb)
        rw [show (k : Int) - 1 + 1 = k by omega] at hP
        have HPS := Lib.hid (And.intro hP hP2)
        have HLT := Lib.hid (HM.out.lt)
        have lB0 : BP < wr.heap.size := HM.out.bp.lt
        have lB1 : ib < wr.heap.size := World.block_lt_of_cell? _ _ i1
        have HRA := Lib.hid (fun w' (he : Ext wr w') => (HM.out.pv.ext he).weak (by omega) (V' := Any) (fun _ _ h => h.elim))
        have Ha4 := Lib.hid (fun w' (he : Ext wr w') => (R4.out.ext he).weak (by omega) (V' := Any) (fun _ _ h => h.elim))
        clear hG hmod hd2 hP hP2
        obtain ⟨pa, pc, hzp, -, -⟩ := HM.out.pv.form
        subst hzp
        generalize xb % 1024 = sec at *
        generalize hz : stepS p (valsI xa) sec 0 0 = z at *
        clear hz
        obtain ⟨p', ms⟩ := z
        have HBP0 : Hid (∀ w', Ext wr w' → Bk w' BP 29 (pubC p (.slice pa p.vals.length pc))) := fun w' he => HM.out.bp.ext he
        obtain ⟨p1, p2, p3, p4, p5, p6, p7, p8, p9, p10, p11, p12, pl⟩ := p
        obtain ⟨y1, y2, y3, y4, y5, y6, y7, y8, y9, y10, y11, y12, yl⟩ := p'
        simp only at *
        generalize hnp : pl.length = np at *
        generalize hnq : yl.length = nq at *
        have HNQ := Lib.hid hnq
        generalize hnms : ms.length = nm at *
        have HNM := Lib.hid hnms
        clear hnp hnq hnms
        have HBP : Hid (∀ w', Ext wr w' → Bk w' BP 29 #[.int .i64 p1, .int .i64 p2, .int .i64 p3, .int .i64 p4, .bool p5, .int .i64 p6, .int .i64 p7, .int .i64 p8, .int .i64 p9, .int .i64 p10, .int .i64 p11, .int .i64 p12, .slice pa np pc]) := HBP0
        clear HBP0
        have HI1 := Lib.hid i1
        have HBC := Lib.hid (fun w' (he : Ext wr w') => And.intro (HBP.out w' he).cell (he.cell HI1.out))
        have q0 : ∀ j, wr.cell? ⟨BP, j, none⟩ = (#[.int .i64 p1, .int .i64 p2, .int .i64 p3, .int .i64 p4, .bool p5, .int .i64 p6, .int .i64 p7, .int .i64 p8, .int .i64 p9, .int .i64 p10, .int .i64 p11, .int .i64 p12, .slice pa np pc] : Array Value)[j]? := (HBC.out _ (Ext.refl wr)).1
        go_upto_region 13 with fail
        rename_i Qr Kr aKr K13 aK13
        go_cut [17, 18] (fun t m wx => ∃ (qb : Nat) (a5 : Option Addr) (c5 : Nat) (a6 : Option Addr) (c6 : Nat), t = .pointer (some ⟨qb, 0, none⟩) ∧ m = .slice a6 ms.length c6 ∧ AftQ (EV BP BN) wr wx qb ⟨y1, y2, y3, y4, y5, y6, y7, y8, y9, y10, y11, y12, yl⟩ ms a5 c5 a6 c6)
        case first =>
          go_region_held3 (fun w' => (∀ j, w'.cell? ⟨BP, j, none⟩ = (#[.int .i64 p1, .int .i64 p2, .int .i64 p3, .int .i64 p4, .bool p5, .int .i64 p6, .int .i64 p7, .int .i64 p8, .int .i64 p9, .int .i64 p10, .int .i64 p11, .int .i64 p12, .slice pa np pc] : Array Value)[j]?) ∧ w'.cell? ⟨ib, io + k * 2 + 1, none⟩ = some (.int .i64 xb))
            (first | (with_reducible exact ⟨q0, i1⟩) | (exact HBC.out _ (by first | (with_reducible exact (Ext.refl wr)) | (with_reducible exact (Ext.refl wr).drew) | (with_reducible exact ((Ext.refl wr).alloc _).drew) | (with_reducible exact (Ext.refl wr).drew.alloc _) | (with_reducible exact E5) | (with_reducible exact E5.alloc _))) | (intro j; (repeat rw [World.cell?_setCell_other _ _ _ _ (by first | (simp; done) | (simp; omega))]); with_reducible exact (HBC.out _ E5).1 j) | ((repeat rw [World.cell?_setCell_other _ _ _ _ (by first | (simp; done) | (simp; omega))]); with_reducible exact (HBC.out _ E5).2) | (refine ⟨fun j => ?_, ?_⟩ <;> (repeat rw [World.cell?_setCell_other _ _ _ _ (by first | (simp; done) | (simp; omega))]) <;> first | (with_reducible exact (HBC.out _ E5).1 j) | (with_reducible exact (HBC.out _ E5).2)) | fail)
            (first
              | (go_at_call 8; (with_reducible refine (HSt.out _ _ _ (HRA.out _ (by first | (with_reducible exact (Ext.refl wr).drew) | (with_reducible exact ((Ext.refl wr).alloc _).drew) | (with_reducible exact (Ext.refl wr).drew.alloc _))) (Ha4.out _ (by first | (with_reducible exact (Ext.refl wr).drew) | (with_reducible exact ((Ext.refl wr).alloc _).drew) | (with_reducible exact (Ext.refl wr).drew.alloc _)))).mono ?_); rintro e w5 ⟨a5, c5, a6, c6, he, x5, r5, m5⟩; simp only [HNQ.out, HNM.out] at he; subst he; have E5 : Ext wr w5 := Ext.trans (by first | (with_reducible exact (Ext.refl wr).drew) | (with_reducible exact ((Ext.refl wr).alloc _).drew) | (with_reducible exact (Ext.refl wr).drew.alloc _)) x5; (first | (with_reducible have T5 := Lib.hid ((Bk.new wr #[.int .i64 0, .int .i64 0, .int .i64 0, .int .i64 0, .bool false, .int .i64 0, .int .i64 0, .int .i64 0, .int .i64 0, .int .i64 0, .int .i64 0, .int .i64 0, .slice none 0 0] 29 wr.heap.size rfl).drew.ext x5)) | (with_reducible have T5 := Lib.hid ((Bk.new wr.drew #[.int .i64 0, .int .i64 0, .int .i64 0, .int .i64 0, .bool false, .int .i64 0, .int .i64 0, .int .i64 0, .int .i64 0, .int .i64 0, .int .i64 0, .int .i64 0, .slice none 0 0] 29 wr.heap.size rfl).ext x5)) | (have T5 := Lib.hid True.intro)); (try have tt1 := T5.out.cell); (try have tt2 := T5.out.frozen))
              | fail)
          all_goals
            first
            | (with_reducible have hA0 := aftQ_put (V := EV BP BN) (n := ⟨y1, y2, y3, y4, y5, y6, y7, y8, y9, y10, y11, y12, yl⟩) (((Ext.refl wr).alloc (.cells #[.int .i64 0, .int .i64 0, .int .i64 0, .int .i64 0, .bool false, .int .i64 0, .int .i64 0, .int .i64 0, .int .i64 0, .int .i64 0, .int .i64 0, .int .i64 0, .slice none 0 0] 29)).drew) HLT.out x5 ((Bk.new wr #[.int .i64 0, .int .i64 0, .int .i64 0, .int .i64 0, .bool false, .int .i64 0, .int .i64 0, .int .i64 0, .int .i64 0, .int .i64 0, .int .i64 0, .int .i64 0, .slice none 0 0] 29 wr.heap.size rfl).drew) rfl (Nat.le_refl _) r5 m5
               have hA : AftQ (EV BP BN) wr (put w5 wr.heap.size 0 [.int .i64 y1, .int .i64 y2, .int .i64 y3, .int .i64 y4, .bool y5, .int .i64 y6, .int .i64 y7, .int .i64 y8, .int .i64 y9, .int .i64 y10, .int .i64 y11, .int .i64 y12, .slice a5 nq c5]) wr.heap.size ⟨y1, y2, y3, y4, y5, y6, y7, y8, y9, y10, y11, y12, yl⟩ ms a5 c5 a6 c6 := by simpa only [HNQ.out] using hA0
               clear hA0
               change Exit.then _ _ _ _ (put w5 wr.heap.size 0 [.int .i64 y1, .int .i64 y2, .int .i64 y3, .int .i64 y4, .bool y5, .int .i64 y6, .int .i64 y7, .int .i64 y8, .int .i64 y9, .int .i64 y10, .int .i64 y11, .int .i64 y12, .slice a5 nq c5])
               generalize put w5 wr.heap.size 0 [.int .i64 y1, .int .i64 y2, .int .i64 y3, .int .i64 y4, .bool y5, .int .i64 y6, .int .i64 y7, .int .i64 y8, .int .i64 y9, .int .i64 y10, .int .i64 y11, .int .i64 y12, .slice a5 nq c5] = w6 at *
               have HA := Lib.hid hA
               clear hA
               go_wp2_with fail
               go_meet
               exact ⟨wr.heap.size, a5, c5, a6, c6, rfl, by rw [HNM.out], HA.out⟩)
            | (with_reducible have hA0 := aftQ_put (V := EV BP BN) (n := ⟨y1, y2, y3, y4, y5, y6, y7, y8, y9, y10, y11, y12, yl⟩) ((Ext.refl wr).drew.alloc (.cells #[.int .i64 0, .int .i64 0, .int .i64 0, .int .i64 0, .bool false, .int .i64 0, .int .i64 0, .int .i64 0, .int .i64 0, .int .i64 0, .int .i64 0, .int .i64 0, .slice none 0 0] 29)) HLT.out x5 (show Bk (wr.drew.alloc (.cells #[.int .i64 0, .int .i64 0, .int .i64 0, .int .i64 0, .bool false, .int .i64 0, .int .i64 0, .int .i64 0, .int .i64 0, .int .i64 0, .int .i64 0, .int .i64 0, .slice none 0 0] 29)) wr.heap.size 29 #[.int .i64 0, .int .i64 0, .int .i64 0, .int .i64 0, .bool false, .int .i64 0, .int .i64 0, .int .i64 0, .int .i64 0, .int .i64 0, .int .i64 0, .int .i64 0, .slice none 0 0] from Bk.new wr.drew #[.int .i64 0, .int .i64 0, .int .i64 0, .int .i64 0, .bool false, .int .i64 0, .int .i64 0, .int .i64 0, .int .i64 0, .int .i64 0, .int .i64 0, .int .i64 0, .slice none 0 0] 29 wr.heap.size rfl) rfl (Nat.le_refl _) r5 m5
               have hA : AftQ (EV BP BN) wr (put w5 wr.heap.size 0 [.int .i64 y1, .int .i64 y2, .int .i64 y3, .int .i64 y4, .bool y5, .int .i64 y6, .int .i64 y7, .int .i64 y8, .int .i64 y9, .int .i64 y10, .int .i64 y11, .int .i64 y12, .slice a5 nq c5]) wr.heap.size ⟨y1, y2, y3, y4, y5, y6, y7, y8, y9, y10, y11, y12, yl⟩ ms a5 c5 a6 c6 := by simpa only [HNQ.out] using hA0
               clear hA0
               change Exit.then _ _ _ _ (put w5 wr.heap.size 0 [.int .i64 y1, .int .i64 y2, .int .i64 y3, .int .i64 y4, .bool y5, .int .i64 y6, .int .i64 y7, .int .i64 y8, .int .i64 y9, .int .i64 y10, .int .i64 y11, .int .i64 y12, .slice a5 nq c5])
               generalize put w5 wr.heap.size 0 [.int .i64 y1, .int .i64 y2, .int .i64 y3, .int .i64 y4, .bool y5, .int .i64 y6, .int .i64 y7, .int .i64 y8, .int .i64 y9, .int .i64 y10, .int .i64 y11, .int .i64 y12, .slice a5 nq c5] = w6 at *
               have HA := Lib.hid hA
               clear hA
               go_wp2_with fail
               go_meet
               exact ⟨wr.heap.size, a5, c5, a6, c6, rfl, by rw [HNM.out], HA.out⟩)
            | (have hA0 := aftQ_new (V := EV BP BN) (n := ⟨y1, y2, y3, y4, y5, y6, y7, y8, y9, y10, y11, y12, yl⟩) (Ext.refl wr).drew HLT.out x5 r5 m5
               have hA : AftQ (EV BP BN) wr (w5.alloc (.cells #[.int .i64 y1, .int .i64 y2, .int .i64 y3, .int .i64 y4, .bool y5, .int .i64 y6, .int .i64 y7, .int .i64 y8, .int .i64 y9, .int .i64 y10, .int .i64 y11, .int .i64 y12, .slice a5 nq c5] 29)) w5.heap.size ⟨y1, y2, y3, y4, y5, y6, y7, y8, y9, y10, y11, y12, yl⟩ ms a5 c5 a6 c6 := by simpa only [HNQ.out] using hA0
               clear hA0
               generalize w5.alloc (.cells #[.int .i64 y1, .int .i64 y2, .int .i64 y3, .int .i64 y4, .bool y5, .int .i64 y6, .int .i64 y7, .int .i64 y8, .int .i64 y9, .int .i64 y10, .int .i64 y11, .int .i64 y12, .slice a5 nq c5] 29) = w6 at *
               have HA := Lib.hid hA
               clear hA
               go_wp2_with fail
               go_meet
               exact ⟨w5.heap.size, a5, c5, a6, c6, rfl, by rw [HNM.out], HA.out⟩)
        case rest =>
          skip
          obtain ⟨qb, a5, c5, a6, c6, rfl, rfl, hQ, hRQ, hMs, hx5, hqb⟩ := hcut
          simp only [HNQ.out] at hQ hRQ
          obtain ⟨w5, hw5⟩ : ∃ w5, w5 = wc := ⟨_, rfl⟩
          subst hw5
          have HQ := Lib.hid (And.intro hQ (And.intro hRQ (And.intro hMs (And.intro hx5 hqb))))
          have q1 : ∀ j, w5.cell? ⟨qb, j, none⟩ = (#[.int .i64 y1, .int .i64 y2, .int .i64 y3, .int .i64 y4, .bool y5, .int .i64 y6, .int .i64 y7, .int .i64 y8, .int .i64 y9, .int .i64 y10, .int .i64 y11, .int .i64 y12, .slice a5 nq c5] : Array Value)[j]? := hQ.cell
          have BPB := Lib.hid (HBP.out _ hx5)
          clear q0 i1 hQ hRQ hMs hx5 hqb
          have q0 : ∀ j, w5.cell? ⟨BP, j, none⟩ = (#[.int .i64 p1, .int .i64 p2, .int .i64 p3, .int .i64 p4, .bool p5, .int .i64 p6, .int .i64 p7, .int .i64 p8, .int .i64 p9, .int .i64 p10, .int .i64 p11, .int .i64 p12, .slice pa np pc] : Array Value)[j]? := BPB.out.cell
          have f0 := BPB.out.frozen
          go_upto_region 15 with fail
          change Code.wp _ _ _ _ (put w5 BP 0 [.int .i64 y1, .int .i64 y2, .int .i64 y3, .int .i64 y4, .bool y5, .int .i64 y6, .int .i64 y7, .int .i64 y8, .int .i64 y9, .int .i64 y10, .int .i64 y11, .int .i64 y12, .slice a5 nq c5])
          have M6 := Lib.hid (show EMem W0 (put w5 BP 0 [.int .i64 y1, .int .i64 y2, .int .i64 y3, .int .i64 y4, .bool y5, .int .i64 y6, .int .i64 y7, .int .i64 y8, .int .i64 y9, .int .i64 y10, .int .i64 y11, .int .i64 y12, .slice a5 nq c5]) BP BN ⟨y1, y2, y3, y4, y5, y6, y7, y8, y9, y10, y11, y12, yl⟩ (.slice a5 nq c5) xs from (HM.out.to HQ.out.2.2.2.1).putP (p' := ⟨y1, y2, y3, y4, y5, y6, y7, y8, y9, y10, y11, y12, yl⟩) (vp' := .slice a5 nq c5) HQ.out.2.1)
          have MS6 := Lib.hid (RS.agree HQ.out.2.2.1 (agree_put (V := EV BP BN) (B := BP) (.inl rfl) [.int .i64 y1, .int .i64 y2, .int .i64 y3, .int .i64 y4, .bool y5, .int .i64 y6, .int .i64 y7, .int .i64 y8, .int .i64 y9, .int .i64 y10, .int .i64 y11, .int .i64 y12, .slice a5 nq c5] 0 w5) (fun _ _ _ hm => msgRep.agree hm (agree_put (V := EV BP BN) (B := BP) (.inl rfl) [.int .i64 y1, .int .i64 y2, .int .i64 y3, .int .i64 y4, .bool y5, .int .i64 y6, .int .i64 y7, .int .i64 y8, .int .i64 y9, .int .i64 y10, .int .i64 y11, .int .i64 y12, .slice a5 nq c5] 0 w5)))
          have RV6 := Lib.hid ((R4.out.ext HQ.out.2.2.2.1).agree (agree_put (V := EV BP BN) (B := BP) (.inl rfl) [.int .i64 y1, .int .i64 y2, .int .i64 y3, .int .i64 y4, .bool y5, .int .i64 y6, .int .i64 y7, .int .i64 y8, .int .i64 y9, .int .i64 y10, .int .i64 y11, .int .i64 y12, .slice a5 nq c5] 0 w5))
          clear q0 q1 f0 HQ BPB HBP HBC HRA HSt Ha4 HM
          generalize put w5 BP 0 [.int .i64 y1, .int .i64 y2, .int .i64 y3, .int .i64 y4, .bool y5, .int .i64 y6, .int .i64 y7, .int .i64 y8, .int .i64 y9, .int .i64 y10, .int .i64 y11, .int .i64 y12, .slice a5 nq c5] = w6 at *
          go_upto_block 4 with fail
          rename_i K4x aK4
          go_cut [19] (fun _ wx => ∃ xs' : List St, xs'.length = n ∧ StsA fr (k : Int) H H.length xs' ∧ EMem W0 wx BP BN ⟨y1, y2, y3, y4, y5, y6, y7, y8, y9, y10, y11, y12, yl⟩ (.slice a5 nq c5) xs' ∧ RS (EV BP BN) 10 (msgRep (EV BP BN)) wx (.slice a6 ms.length c6) ms ∧ RF (EV BP BN) 6 valE wx (.slice a4 nl c4) (valsI xa))
          case first =>
            go_wp2_with fail
            go_loopw [19] (fun s wr => ∃ (i : Nat) (xs' : List St), i ≤ n ∧ s = .int .i64 i ∧ xs'.length = n ∧ Sts fr ((k : Int) - 1) (k : Int) H H.length H.length i xs' ∧ EMem W0 wr BP BN ⟨y1, y2, y3, y4, y5, y6, y7, y8, y9, y10, y11, y12, yl⟩ (.slice a5 nq c5) xs' ∧ RS (EV BP BN) 10 (msgRep (EV BP BN)) wr (.slice a6 ms.length c6) ms ∧ RF (EV BP BN) 6 valE wr (.slice a4 nl c4) (valsI xa)) (fun s _ => n - (intOf s).toNat)
            case atStart => exact ⟨0, xs, Nat.zero_le _, rfl, HE.out.xl, HE.out.st.start _ _, M6.out, MS6.out, RV6.out⟩
            case round =>
              obtain ⟨i, xs', hi, rfl, hxl, hxs, hM, hMS, hRV⟩ := hrel
              have HM := Lib.hid hM
              have HXS := Lib.hid hxs
              have HXL := Lib.hid hxl
              have HMS := Lib.hid hMS
              have HRV := Lib.hid hRV
              clear M6 MS6 RV6 hM hxs hxl hMS hRV
              by_cases hlt : i < n
              · have hli : (i : Int) < n := by omega
                have hli0 : (0 : Int) ≤ i := by omega
                obtain ⟨x, hx⟩ : ∃ x, xs'[i]? = some x := ⟨_, List.getElem?_eq_getElem (by rw [HXL.out]; exact hlt)⟩
                have HXI := Lib.hid hx
                have HST := Lib.hid (HXS.out.at hx)
                obtain ⟨k1, _, k3, _, _⟩ := HST.out.ok HE.out.pi.row
                obtain ⟨ca, cc, ca', cc', hcell, _, rsub⟩ := HM.out.sn.get hx
                have HT := Lib.hid (fun w1 (he : Ext wr w1) => tick_any x.sub (.slice ca' x.sub.vals.length cc') w1 (rsub.ext he) (by omega) (by omega))
                have HTS := Lib.hid HST.out.tick
                obtain ⟨t, ht⟩ : ∃ t, tickS x.sub = t := ⟨_, rfl⟩
                rw [ht] at HT HTS
                clear hx k1 k3 rsub ht
                obtain ⟨xb, ⟨s1, s2, s3, s4, s5, s6, s7, s8, sl⟩⟩ := x
                obtain ⟨t1, t2, t3, t4, t5, t6, t7, t8, tl⟩ := t
                simp only at *
                generalize hnu : sl.length = nu at *
                generalize hnt : tl.length = nt at *
                have HNT := Lib.hid hnt
                generalize xb.length = nb at *
                clear hnu hnt
                have ce0 : wr.cell? ⟨BN, i * 10 + 1, none⟩ = some (.int .i64 s1) := hcell 1 (by decide)
                have ce1 : wr.cell? ⟨BN, i * 10 + 1 + 1, none⟩ = some (.int .i64 s2) := hcell 2 (by decide)
                have ce2 : wr.cell? ⟨BN, i * 10 + 1 + 2, none⟩ = some (.bool s3) := hcell 3 (by decide)
                have ce3 : wr.cell? ⟨BN, i * 10 + 1 + 3, none⟩ = some (.int .i64 s4) := hcell 4 (by decide)
                have ce4 : wr.cell? ⟨BN, i * 10 + 1 + 4, none⟩ = some (.int .i64 s5) := hcell 5 (by decide)
                have ce5 : wr.cell? ⟨BN, i * 10 + 1 + 5, none⟩ = some (.int .i64 s6) := hcell 6 (by decide)
                have ce6 : wr.cell? ⟨BN, i * 10 + 1 + 6, none⟩ = some (.int .i64 s7) := hcell 7 (by decide)
                have ce7 : wr.cell? ⟨BN, i * 10 + 1 + 7, none⟩ = some (.bool s8) := hcell 8 (by decide)
                have ce8 : wr.cell? ⟨BN, i * 10 + 1 + 8, none⟩ = some (.slice ca' nu cc') := hcell 9 (by decide)
                clear hcell
                go_wp2_with fail
                refine (HT.out _ (Ext.refl wr)).mono ?_
                rintro e w7 ⟨a7, c7, he, x7, r7⟩
                simp only [HNT.out] at he r7
                subst he
                clear ce0 ce1 ce2 ce3 ce4 ce5 ce6 ce7 ce8
                have M7 := Lib.hid (HM.out.to x7)
                obtain ⟨da, dc, da', dc', dcell, _, _⟩ := M7.out.sn.get HXI.out
                simp only at dcell
                have de0 : w7.cell? ⟨BN, i * 10 + 1, none⟩ = some (.int .i64 s1) := dcell 1 (by decide)
                have de1 : w7.cell? ⟨BN, i * 10 + 1 + 1, none⟩ = some (.int .i64 s2) := dcell 2 (by decide)
                have de2 : w7.cell? ⟨BN, i * 10 + 1 + 2, none⟩ = some (.bool s3) := dcell 3 (by decide)
                have de3 : w7.cell? ⟨BN, i * 10 + 1 + 3, none⟩ = some (.int .i64 s4) := dcell 4 (by decide)
                have de4 : w7.cell? ⟨BN, i * 10 + 1 + 4, none⟩ = some (.int .i64 s5) := dcell 5 (by decide)
                have de5 : w7.cell? ⟨BN, i * 10 + 1 + 5, none⟩ = some (.int .i64 s6) := dcell 6 (by decide)
                have de6 : w7.cell? ⟨BN, i * 10 + 1 + 6, none⟩ = some (.int .i64 s7) := dcell 7 (by decide)
                have de7 : w7.cell? ⟨BN, i * 10 + 1 + 7, none⟩ = some (.bool s8) := dcell 8 (by decide)
                have de8 : w7.cell? ⟨BN, i * 10 + 1 + 8, none⟩ = some (.slice da' _ dc') := dcell 9 (by decide)
                have ff := fun j => M7.out.sn.frozen j
                clear dcell
                go_wp2_with fail
                clear de0 de1 de2 de3 de4 de5 de6 de7 de8 ff
                have M8 := (show EMem W0 (putB w7 BN (i * 10 + 1) 0 [.int .i64 t1, .int .i64 t2, .bool t3, .int .i64 t4, .int .i64 t5, .int .i64 t6, .int .i64 t7, .bool t8, .slice a7 nt c7]) BP BN ⟨y1, y2, y3, y4, y5, y6, y7, y8, y9, y10, y11, y12, yl⟩ (.slice a5 nq c5) (xs'.set i ⟨xb, ⟨t1, t2, t3, t4, t5, t6, t7, t8, tl⟩⟩) from by
                  rw [putB_eq]
                  have h := M7.out.putS HXI.out (u := ⟨t1, t2, t3, t4, t5, t6, t7, t8, tl⟩) (a' := a7) (c' := c7) (by rw [HNT.out]; exact r7.weak (by omega) (fun g _ hg => HM.out.lt g hg))
                  rw [HNT.out] at h
                  exact h)
                have MS8 := RS.agree (RS.agree HMS.out (x7.agree _) (fun _ _ _ hm => msgRep.ext hm x7)) (agree_put (V := EV BP BN) (B := BN) (.inr rfl) [.int .i64 t1, .int .i64 t2, .bool t3, .int .i64 t4, .int .i64 t5, .int .i64 t6, .int .i64 t7, .bool t8, .slice a7 nt c7] (i * 10 + 1 + 0) w7) (fun _ _ _ hm => msgRep.agree hm (agree_put (V := EV BP BN) (B := BN) (.inr rfl) [.int .i64 t1, .int .i64 t2, .bool t3, .int .i64 t4, .int .i64 t5, .int .i64 t6, .int .i64 t7, .bool t8, .slice a7 nt c7] (i * 10 + 1 + 0) w7))
                have RV8 := (HRV.out.ext x7).agree (agree_put (V := EV BP BN) (B := BN) (.inr rfl) [.int .i64 t1, .int .i64 t2, .bool t3, .int .i64 t4, .int .i64 t5, .int .i64 t6, .int .i64 t7, .bool t8, .slice a7 nt c7] (i * 10 + 1 + 0) w7)
                rw [← putB_eq] at MS8 RV8
                obtain ⟨w8, hW9⟩ : ∃ w9, putB w7 BN (i * 10 + 1) 0 [.int .i64 t1, .int .i64 t2, .bool t3, .int .i64 t4, .int .i64 t5, .int .i64 t6, .int .i64 t7, .bool t8, .slice a7 nt c7] = w9 := ⟨_, rfl⟩
                have hW8 := hW9
                simp only [putB, Nat.reduceAdd, Nat.add_zero] at hW8
                rw [hW8]
                clear hW8
                rw [hW9] at M8 MS8 RV8
                clear hW9
                have R1 : i + 1 ≤ n := hlt
                have R4' := mes_up hlt (show n ≤ 90 by have := HN.out; omega)
                have R3 := idx_up hlt (show n ≤ 90 by have := HN.out; omega)
                have R5 := HXS.out.put (by rw [HXL.out]; exact hlt) (show Stn fr (k : Int) H H.length i ⟨xb, ⟨t1, t2, t3, t4, t5, t6, t7, t8, tl⟩⟩ from by have h := HTS.out; rwa [show (k : Int) - 1 + 1 = k by omega] at h)
                go_roundw
                case rel => exact ⟨i + 1, xs'.set i ⟨xb, ⟨t1, t2, t3, t4, t5, t6, t7, t8, tl⟩⟩, R1, R3, by rw [List.length_set]; exact HXL.out, R5, M8, MS8, RV8⟩
                case measure => exact R4'
              · have hli : ¬ (i : Int) < n := by omega
                go_wp2_with fail
                go_meet
                exact ⟨xs', HXL.out, HXS.out.done (by rw [HXL.out]; omega), HM.out, HMS.out, HRV.out⟩
          case rest =>
            revert a b c d l lo w ic hi2 ja jc hj2 ln hi1 HLN lm HIO hj1 HLM Qf w1 n fr A B gA gB HN W0 X0 TA0 TB0 GB BR w2 cur hn0 W1 BN BP u13 u42 u43 u44 u45 u46 u47 u48 u49 u50 u51 W2 Kf aKf u6 u16 u17 u18 u20 u21 u22 u23 u24 u25 u26 u27 u28 u29 k xs H hk60 hkl sq HSQ hlt1 hk1 hk2 hk0 xa xb HXK ib io HIN HV nl HNL Qr Kr aKr w4 a4 c4 ic2 wr R4 HLT lB0 lB1 pa pc sec hsec ms p1 p2 p3 p4 p5 p6 p7 p8 p9 p10 p11 p12 pl HE y1 y2 y3 y4 y5 y6 y7 y8 y9 y10 y11 y12 yl HPS np nq HNQ nm HNM HI1 u52 u53 u54 u55 u56 u57 u58 u59 u60 u61 u62 u63 u64 u65 u66 u67 u68 u69 u70 u71 u72 u73 u74 u75 u76 u77 u78 u79 u80 u81 u97 u98 u99 u100 u101 u102 u103 u104 u105 u106 u107 u108 u109 u110 u111 u112 u113 u114 u115 u116 u117 u118 u119 u120 u121 u122 u123 u124 u125 u126 u127 u128 u129 u130 u131 u132 u133 u134 u135 u136 u137 u138 u139 u140 u141 u142 u143 u144 u145 u146 u147 u148 u149 u150 u151 u152 u153 u154 u155 u156 u157 u158 u159 u160 u161 u162 u163 u164 u165 u166 u167 u168 u169 u170 u171 u172 u173 u174 u175 u176 u177 u178 u179 u180 u181 u182 u183 u184 u185 u186 u187 u188 u189 u190 u191 u192 u193 u194 u195 u196 u197 u198 u199 u200 u201 u202 u203 u204 u205 u206 u207 u208 u209 u210 u211 u212 u213 u214 qb a5 c5 a6 c6 w5 K4x aK4 w6 M6 MS6 RV6 wc u19 u82 u83 u84 u85 u86 u87 u88 u89 u90 u91 u92 u93 u94 u95 u96 hcut
            refine id ?_
            intro a b c d l lo w ic hi2 ja jc hj2 ln hi1 HLN lm HIO hj1 HLM Qf w1 n fr A B gA gB HN W0 X0 TA0 TB0 GB BR w2 cur hn0 W1 BN BP u13 u42 u43 u44 u45 u46 u47 u48 u49 u50 u51 W2 Kf aKf u6 u16 u17 u18 u20 u21 u22 u23 u24 u25 u26 u27 u28 u29 k xs H hk60 hkl sq HSQ hlt1 hk1 hk2 hk0 xa xb HXK ib io HIN HV nl HNL Qr Kr aKr w4 a4 c4 ic2 wr R4 HLT lB0 lB1 pa pc sec hsec ms p1 p2 p3 p4 p5 p6 p7 p8 p9 p10 p11 p12 pl HE y1 y2 y3 y4 y5 y6 y7 y8 y9 y10 y11 y12 yl HPS np nq HNQ nm HNM HI1 u52 u53 u54 u55 u56 u57 u58 u59 u60 u61 u62 u63 u64 u65 u66 u67 u68 u69 u70 u71 u72 u73 u74 u75 u76 u77 u78 u79 u80 u81 u97 u98 u99 u100 u101 u102 u103 u104 u105 u106 u107 u108 u109 u110 u111 u112 u113 u114 u115 u116 u117 u118 u119 u120 u121 u122 u123 u124 u125 u126 u127 u128 u129 u130 u131 u132 u133 u134 u135 u136 u137 u138 u139 u140 u141 u142 u143 u144 u145 u146 u147 u148 u149 u150 u151 u152 u153 u154 u155 u156 u157 u158 u159 u160 u161 u162 u163 u164 u165 u166 u167 u168 u169 u170 u171 u172 u173 u174 u175 u176 u177 u178 u179 u180 u181 u182 u183 u184 u185 u186 u187 u188 u189 u190 u191 u192 u193 u194 u195 u196 u197 u198 u199 u200 u201 u202 u203 u204 u205 u206 u207 u208 u209 u210 u211 u212 u213 u214 qb a5 c5 a6 c6 w5 K4x aK4 w6 M6 MS6 RV6 wc u19 u82 u83 u84 u85 u86 u87 u88 u89 u90 u91 u92 u93 u94 u95 u96 hcut
            obtain ⟨ys, hyl, hys, hM, hMS, hRV⟩ := hcut
            obtain ⟨w7, hw7⟩ : ∃ W, W = wc := ⟨_, rfl⟩
            subst hw7
            have M7 := Lib.hid hM
            have MS7 := Lib.hid hMS
            have RV7 := Lib.hid hRV
            have HYS := Lib.hid (And.intro hyl hys)
            clear M6 MS6 RV6 hM hMS hRV hyl hys
            go_upto_block 6 with fail
            rename_i K6x aK6
            go_cut [14] (fun sq2 wx => ∃ (H2 : List Snt) (xs' : List St), sq2 = .int .i64 ((65530 + (H2.length : Int)) % 65536) ∧ Pinv (k : Int) ⟨y1, y2, y3, y4, y5, y6, y7, y8, y9, y10, y11, y12, yl⟩ H2 ∧ H2.length ≤ k + 1 ∧ xs'.length = n ∧ StsA fr (k : Int) H2 H2.length xs' ∧ EMem W0 wx BP BN ⟨y1, y2, y3, y4, y5, y6, y7, y8, y9, y10, y11, y12, yl⟩ (.slice a5 nq c5) xs' ∧ RF (EV BP BN) 6 valE wx (.slice a4 nl c4) (valsI xa))
            case first =>
              rcases HPS.out.1.2.2 with ⟨hms, hP⟩ | ⟨m, hms, hmv, hfi, hP⟩
              · subst hms
                have HP := Lib.hid hP
                clear hP
                go_wp2_with fail
                refine wp_loop_rounds 1 ?_
                rw [rounds_succ]
                go_wp2_with fail
                go_meet
                exact ⟨H, ys, by rw [HSQ.out], HP.out, by have := HE.out.hl; omega, HYS.out.1, HYS.out.2, M7.out, RV7.out⟩
              · subst hms
                have HSU := Lib.hid (HPS.out.2 m rfl)
                obtain ⟨mb, mo, mc, ma1, mc1, hm1, _, cc0, cc1, cc2, cc3, cc4, cc5, cc6, cc7, cc8, cc9, hmr⟩ := msg_get MS7.out
                simp only [Value.slice.injEq] at hm1
                obtain ⟨hm1, -, hm2⟩ := hm1
                subst hm1 hm2
                have HFI := Lib.hid hfi
                have hsq0 : 0 ≤ sq ∧ sq ≤ 65535 := by have := HSQ.out; omega
                have HEN := Lib.hid (fun v w1 h => enc_at hfi (v := v) (w1 := w1) h)
                have HSN := Lib.hid (fun v w1 h => send_ev hfi (fr := fr) (sq := sq) (by have := HN.out; omega) hsq0 (v := v) (w1 := w1) h)
                have HS0 := Lib.hid hsq0
                have HMR1 := Lib.hid (hmr.weak (by omega) (V' := Any) (fun _ _ h => h.elim))
                have HP1 := Lib.hid hP
                clear hmr hfi hP hmv hsq0
                generalize hpb : (encMB m).length = npb at *
                clear hpb
                simp only [List.length_singleton]
                go_wp2_with fail
                refine wp_loop_rounds 2 ?_
                rw [rounds_succ]
                go_wp2_with fail
                refine (HEN.out _ _ HMR1.out).mono ?_
                rintro e w2 ⟨a2, c2, rfl, x2, r2⟩
                have HR2 := Lib.hid r2
                clear r2 cc0 cc1 cc2 cc3 cc4 cc5 cc6 cc7 cc8 cc9
                go_wp2_with fail
                refine (HSN.out _ _ HR2.out).mono ?_
                rintro e w3 ⟨f0, k0, f1, k1, rfl, x3, r3, r4⟩
                have HF0 := Lib.hid r3
                have HF1 := Lib.hid r4
                clear r3 r4
                go_upto_region 24 with fail
                have E3 := Lib.hid ((x2.trans x3).alloc (.cells #[.slice f0 (npb + 8) k0, .slice f1 (npb + 8) k1] 56))
                have M3 := Lib.hid (M7.out.to E3.out)
                have RV3 := Lib.hid (RV7.out.ext E3.out)
                have C3 := Lib.hid (Bk.new w3 #[.slice f0 (npb + 8) k0, .slice f1 (npb + 8) k1] 56 w3.heap.size rfl)
                have F0 := Lib.hid ((HF0.out.weak (V' := EV BP BN) (fun g _ hg => x2.lt (M7.out.lt g hg))).ext ((Ext.refl w3).alloc (.cells #[.slice f0 (npb + 8) k0, .slice f1 (npb + 8) k1] 56)))
                have F1 := Lib.hid ((HF1.out.weak (V' := EV BP BN) (fun g _ hg => x2.lt (M7.out.lt g hg))).ext ((Ext.refl w3).alloc (.cells #[.slice f0 (npb + 8) k0, .slice f1 (npb + 8) k1] 56)))
                have HXC := Lib.hid (show BN ≠ w3.heap.size from fun e => by have h1 := (x2.trans x3).lt (M7.out.lt BN (.inr rfl)); omega)
                have HYT := Lib.hid (And.intro HYS.out.1 (HYS.out.2.snoc ⟨m, k⟩))
                clear M7 RV7 MS7 HYS x2 x3 HF0 HF1 E3 HR2
                generalize w3.alloc (.cells #[.slice f0 (npb + 8) k0, .slice f1 (npb + 8) k1] 56) = W3 at *
                generalize w3.heap.size = CB at *
                go_upto_block 8 with fail
                go_wp2_with fail
                go_loopw [26] (fun s wr => ∃ (nt m' : Nat) (xs' : List St), nt ≤ 2 ∧ s = .int .i64 nt ∧ (m' = H.length ∨ m' = H.length + 1) ∧ (m' = H.length → nt = 0 ∨ (nt = 1 ∧ lo[k]? = some 0)) ∧ xs'.length = n ∧ StsA fr (k : Int) (H ++ [(⟨m, (k : Int)⟩ : Snt)]) m' xs' ∧ EMem W0 wr BP BN ⟨y1, y2, y3, y4, y5, y6, y7, y8, y9, y10, y11, y12, yl⟩ (.slice a5 nq c5) xs' ∧ RF (EV BP BN) 6 valE wr (.slice a4 nl c4) (valsI xa) ∧ Bk wr CB 56 #[.slice f0 (npb + 8) k0, .slice f1 (npb + 8) k1] ∧ RB (EV BP BN) wr (.slice f0 (npb + 8) k0) (frame (encMB m) (fr : Int) sq 0) ∧ RB (EV BP BN) wr (.slice f1 (npb + 8) k1) (frame (encMB m) (fr : Int) sq 1)) (fun s _ => 2 - (intOf s).toNat)
                case atStart => exact ⟨0, H.length, ys, by omega, rfl, .inl rfl, fun _ => .inl rfl, HYT.out.1, HYT.out.2, M3.out, RV3.out, C3.out, F0.out, F1.out⟩
                case round =>
                  obtain ⟨nt, m', xs', hnt, rfl, hm1, hm2, hxl, hxs, hM, hRV, hC, hf0, hf1⟩ := hrel
                  have HM := Lib.hid hM
                  have HXL := Lib.hid hxl
                  have HXS := Lib.hid hxs
                  have HRV := Lib.hid hRV
                  have HC := Lib.hid hC
                  have F0' := Lib.hid hf0
                  have F1' := Lib.hid hf1
                  have HMM := Lib.hid (And.intro hm1 hm2)
                  clear hM hxl hxs hRV hC hf0 hf1 hm1 hm2 M3 RV3 C3 F0 F1 HYT
                  by_cases hlt : nt < 2
                  · have hli : (nt : Int) < 2 := by omega
                    have hli0 : (0 : Int) ≤ nt := by omega
                    obtain ⟨Q, gQ, hcq, hTQ, hOQ⟩ : ∃ (Q : Nat) (gQ : Nat → Bool), wr.cell? ⟨GB, nt, none⟩ = some (.slice (some ⟨Q, 0, none⟩) n n) ∧ TRow wr Q n gQ ∧ One n gQ := by
                      have hb := (BR.out.ext HM.out.ext).cell
                      rcases (show nt = 0 ∨ nt = 1 by omega) with rfl | rfl
                      · exact ⟨A, gA, hb 0, TA0.out.1.ext HM.out.ext, TA0.out.2⟩
                      · exact ⟨B, gB, hb 1, TB0.out.1.ext HM.out.ext, TB0.out.2⟩
                    have HRE := Lib.hid (reached_at HN.out.1 HN.out.2.1 HN.out.2.2 hOQ hTQ)
                    clear hTQ hOQ
                    go_wp2_with fail
                    refine HRE.out.mono ?_
                    rintro e w4 ⟨RX, rfl, x4, hRX, hTX⟩
                    have HXR := Lib.hid (show BN ≠ RX from fun e => by have := HM.out.lt BN (.inr rfl); omega)
                    clear hRX
                    replace HM := Lib.hid (HM.out.to x4)
                    replace HRV := Lib.hid (HRV.out.ext x4)
                    replace HC := Lib.hid (HC.out.ext x4)
                    replace F0' := Lib.hid (F0'.out.ext x4)
                    replace F1' := Lib.hid (F1'.out.ext x4)
                    have HTX := Lib.hid hTX
                    clear hcq HRE x4 hTX
                    go_upto_region 31 with fail
                    go_cut [146] (fun s wx => ∃ bb : Bool, s = .bool bb ∧ wx = w4 ∧ (bb = true → lo[k]? = some (nt : Int)))
                    case first =>
                      by_cases hkl : k < lm
                      · obtain ⟨z, hz⟩ : ∃ z, lo[k]? = some z := ⟨_, List.getElem?_eq_getElem (by rw [HLM.out]; exact hkl)⟩
                        have HZ := Lib.hid hz
                        obtain ⟨jb, jo, jcc, hv2, j0⟩ := intL_get (HIO.out w4 (X0.out.trans HM.out.ext)) hz
                        rw [HLM.out] at hv2
                        simp only [Value.slice.injEq] at hv2
                        obtain ⟨hv21, -, hv22⟩ := hv2
                        subst hv21 hv22
                        have hkb : (k : Int) < lm := by omega
                        clear hz
                        by_cases hzn : z = nt
                        · have hzb : (z == (nt : Int)) = true := by simpa using hzn
                          go_wp2_with fail
                          go_meet
                          exact ⟨true, rfl, rfl, fun _ => by rw [HZ.out, hzn]⟩
                        · have hzb : (z == (nt : Int)) = false := by simpa using hzn
                          go_wp2_with fail
                          go_meet
                          exact ⟨false, rfl, rfl, fun h => by cases h⟩
                      · have hkb : ¬ (k : Int) < lm := by omega
                        go_wp2_with fail
                        go_meet
                        exact ⟨false, rfl, rfl, fun h => by cases h⟩
                    case rest =>
                      obtain ⟨bb, rfl, hwc, hbb⟩ := hcut
                      subst hwc
                      obtain ⟨wr, hwr⟩ : ∃ W, W = wc := ⟨_, rfl⟩
                      subst hwr
                      have HBB := Lib.hid hbb
                      clear hbb
                      cases bb
                      · go_wp2_with fail
                        go_loopw [28] (fun s wr => ∃ (i : Nat) (ys : List St), i ≤ n ∧ s = .int .i64 i ∧ ys.length = n ∧ Sts fr (k : Int) (k : Int) (H ++ [(⟨m, (k : Int)⟩ : Snt)]) m' (H.length + 1) i ys ∧ EMem W0 wr BP BN ⟨y1, y2, y3, y4, y5, y6, y7, y8, y9, y10, y11, y12, yl⟩ (.slice a5 nq c5) ys ∧ RF (EV BP BN) 6 valE wr (.slice a4 nl c4) (valsI xa) ∧ (Bk wr CB 56 #[.slice f0 (npb + 8) k0, .slice f1 (npb + 8) k1] ∧ RB (EV BP BN) wr (.slice f0 (npb + 8) k0) (frame (encMB m) (fr : Int) sq 0) ∧ RB (EV BP BN) wr (.slice f1 (npb + 8) k1) (frame (encMB m) (fr : Int) sq 1)) ∧ TRow wr RX n (fun _ => true)) (fun s _ => n - (intOf s).toNat)
                        case atStart => exact ⟨0, xs', Nat.zero_le _, rfl, HXL.out, HXS.out.start _ _, HM.out, HRV.out, ⟨HC.out, F0'.out, F1'.out⟩, HTX.out⟩
                        case round =>
                          obtain ⟨i, ys, hi, rfl, hxl, hxs, hM, hRV, hC, hT⟩ := hrel
                          clear HM HXL HXS HRV HC F0' F1' HTX HBB
                          have HM := Lib.hid hM
                          have HXL := Lib.hid hxl
                          have HXS := Lib.hid hxs
                          have HRV := Lib.hid hRV
                          have HC := Lib.hid hC
                          have HT := Lib.hid hT
                          clear hM hxl hxs hRV hC hT
                          by_cases hlt2 : i < n
                          · have hli : (i : Int) < n := by omega
                            have hli0 : (0 : Int) ≤ i := by omega
                            have b0 := HT.out.cell hlt2
                            have R1 : i + 1 ≤ n := hlt2
                            have R4' := mes_up hlt2 (show n ≤ 90 by have := HN.out; omega)
                            have R3 := idx_up hlt2 (show n ≤ 90 by have := HN.out; omega)
                            by_cases hif : i = fr
                            · have hifb : ((i : Int) == (fr : Int)) = true := beq_iff_eq.2 (by omega)
                              have HIF := Lib.hid hif
                              clear hif
                              go_wp2_with fail
                              go_roundw
                              case rel => exact ⟨i + 1, ys, R1, R3, HXL.out, HXS.out.keep (fun x hx => (HXS.out.at hx).elim (fun h => .inl h) (fun h => absurd HIF.out h.1)), HM.out, HRV.out, HC.out, HT.out⟩
                              case measure => exact R4'
                            · have hifb : ((i : Int) == (fr : Int)) = false := beq_eq_false_iff_ne.2 (fun h => hif (by omega))
                              have HIF := Lib.hid hif
                              clear hif
                              obtain ⟨x, hx⟩ : ∃ x, ys[i]? = some x := ⟨_, List.getElem?_eq_getElem (by rw [HXL.out]; exact hlt2)⟩
                              have HXI := Lib.hid hx
                              have HST := Lib.hid (HXS.out.at hx)
                              obtain ⟨ca, cc, ca', cc', hcell, rbox, rsub⟩ := HM.out.sn.get hx
                              obtain ⟨ff0, fk, hcb, hfr⟩ : ∃ (ff : Option Addr) (fk : Nat), (∀ w', Ext wr w' → w'.cell? ⟨CB, nt, none⟩ = some (.slice ff (npb + 8) fk)) ∧ RB (EV BP BN) wr (.slice ff (npb + 8) fk) (frame (encMB m) (fr : Int) sq (nt : Int)) := by
                                rcases (show nt = 0 ∨ nt = 1 by omega) with rfl | rfl
                                · exact ⟨f0, k0, fun w' he => (HC.out.1.ext he).cell 0, HC.out.2.1⟩
                                · exact ⟨f1, k1, fun w' he => (HC.out.1.ext he).cell 1, HC.out.2.2⟩
                              have HTK := Lib.hid (fun w1 (he : Ext wr w1) => take_ev HM.out HP1.out.row HST.out (s := ⟨m, (k : Int)⟩) (by simp) (by have := HN.out; omega) HS0.out rbox rsub (nt : Int) (by omega) he (hfr.any.ext he))
                              have HTS := HST.out.take (by have := HN.out; omega) HP1.out.row rfl HMM.out.1 HSU.out (by have := HE.out.hl; omega) HIF.out
                              rw [← HSQ.out] at HTS
                              replace HTS := Lib.hid HTS
                              have HCB := Lib.hid hcb
                              obtain ⟨t, ht⟩ : ∃ t, takeF (fr : Int) x m sq = t := ⟨_, rfl⟩
                              have HTK2 : Hid (∀ w1, Ext wr w1 → Calls Try.prog 11 #[stA (.slice ca x.box.length cc) x.sub (.slice ca' x.sub.vals.length cc'), .slice ff0 (npb + 8) fk] w1 (RetStn (EV BP BN) w1 t)) := by rw [← ht]; exact HTK
                              clear HTK
                              have HTK := HTK2
                              clear HTK2
                              simp only [ht] at HTS
                              clear hx rbox rsub hcb hfr ht HST
                              obtain ⟨xb, ⟨s1, s2, s3, s4, s5, s6, s7, s8, sl⟩⟩ := x
                              obtain ⟨tx, ⟨t1, t2, t3, t4, t5, t6, t7, t8, tl⟩⟩ := t
                              simp only at *
                              generalize hn1 : tx.length = n1 at *
                              generalize hn2 : tl.length = n2 at *
                              have HNT := Lib.hid (And.intro hn1 hn2)
                              generalize xb.length = n3 at *
                              generalize sl.length = n4 at *
                              clear hn1 hn2
                              have ce0 : wr.cell? ⟨BN, i * 10, none⟩ = some (.slice ca n3 cc) := hcell 0 (by decide)
                              have ce1 : wr.cell? ⟨BN, i * 10 + 1, none⟩ = some (.int .i64 s1) := hcell 1 (by decide)
                              have ce2 : wr.cell? ⟨BN, i * 10 + 2, none⟩ = some (.int .i64 s2) := hcell 2 (by decide)
                              have ce3 : wr.cell? ⟨BN, i * 10 + 3, none⟩ = some (.bool s3) := hcell 3 (by decide)
                              have ce4 : wr.cell? ⟨BN, i * 10 + 4, none⟩ = some (.int .i64 s4) := hcell 4 (by decide)
                              have ce5 : wr.cell? ⟨BN, i * 10 + 5, none⟩ = some (.int .i64 s5) := hcell 5 (by decide)
                              have ce6 : wr.cell? ⟨BN, i * 10 + 6, none⟩ = some (.int .i64 s6) := hcell 6 (by decide)
                              have ce7 : wr.cell? ⟨BN, i * 10 + 7, none⟩ = some (.int .i64 s7) := hcell 7 (by decide)
                              have ce8 : wr.cell? ⟨BN, i * 10 + 8, none⟩ = some (.bool s8) := hcell 8 (by decide)
                              have ce9 : wr.cell? ⟨BN, i * 10 + 9, none⟩ = some (.slice ca' n4 cc') := hcell 9 (by decide)
                              have cf0 := HCB.out _ (Ext.refl wr)
                              clear hcell
                              go_upto_region 36 with fail
                              go_region_with (go_at_call 11; (with_reducible refine (HTK.out _ (by first | (with_reducible exact (Ext.refl wr).drew) | (with_reducible exact Ext.refl wr))).mono ?_); rintro e w7 ⟨tb, tbc, ta, tac, he, xx, rr1, rr2⟩; simp only [HNT.out.1, HNT.out.2] at he rr1 rr2; subst he; have E7 : Ext wr w7 := Ext.trans (by first | (with_reducible exact (Ext.refl wr).drew) | (with_reducible exact Ext.refl wr)) xx; have M7 := Lib.hid (HM.out.to E7); obtain ⟨da, dc, da', dc', dcell, _, _⟩ := M7.out.sn.get HXI.out; have ff := fun j => M7.out.sn.frozen j; have de0 : w7.cell? ⟨BN, i * 10, none⟩ = some (.slice da _ dc) := dcell 0 (by decide); have de1 : w7.cell? ⟨BN, i * 10 + 1, none⟩ = some (.int .i64 s1) := dcell 1 (by decide); have de2 : w7.cell? ⟨BN, i * 10 + 2, none⟩ = some (.int .i64 s2) := dcell 2 (by decide); have de3 : w7.cell? ⟨BN, i * 10 + 3, none⟩ = some (.bool s3) := dcell 3 (by decide); have de4 : w7.cell? ⟨BN, i * 10 + 4, none⟩ = some (.int .i64 s4) := dcell 4 (by decide); have de5 : w7.cell? ⟨BN, i * 10 + 5, none⟩ = some (.int .i64 s5) := dcell 5 (by decide); have de6 : w7.cell? ⟨BN, i * 10 + 6, none⟩ = some (.int .i64 s6) := dcell 6 (by decide); have de7 : w7.cell? ⟨BN, i * 10 + 7, none⟩ = some (.int .i64 s7) := dcell 7 (by decide); have de8 : w7.cell? ⟨BN, i * 10 + 8, none⟩ = some (.bool s8) := dcell 8 (by decide); have de9 : w7.cell? ⟨BN, i * 10 + 9, none⟩ = some (.slice da' _ dc') := dcell 9 (by decide); clear dcell ce0 ce1 ce2 ce3 ce4 ce5 ce6 ce7 ce8 ce9)
                              all_goals
                                have MX := (show EMem W0 (putB w7 BN (i * 10) 0 [.slice tb n1 tbc, .int .i64 t1, .int .i64 t2, .bool t3, .int .i64 t4, .int .i64 t5, .int .i64 t6, .int .i64 t7, .bool t8, .slice ta n2 tac]) BP BN ⟨y1, y2, y3, y4, y5, y6, y7, y8, y9, y10, y11, y12, yl⟩ (.slice a5 nq c5) (ys.set i ⟨tx, ⟨t1, t2, t3, t4, t5, t6, t7, t8, tl⟩⟩) from by
                                  rw [putB_eq]
                                  have h := M7.out.putX (i := i) (x := ⟨tx, ⟨t1, t2, t3, t4, t5, t6, t7, t8, tl⟩⟩) (a := tb) (c := tbc) (a' := ta) (c' := tac) (get_lt HXI.out) (by rw [HNT.out.1]; exact rr1) (by rw [HNT.out.2]; exact rr2)
                                  simp only [HNT.out.1, HNT.out.2] at h
                                  exact h)
                                have RVX := (HRV.out.ext E7).agree (agree_put (V := EV BP BN) (B := BN) (.inr rfl) [.slice tb n1 tbc, .int .i64 t1, .int .i64 t2, .bool t3, .int .i64 t4, .int .i64 t5, .int .i64 t6, .int .i64 t7, .bool t8, .slice ta n2 tac] (i * 10 + 0) w7)
                                have C1X := put_other HXC.out [.slice tb n1 tbc, .int .i64 t1, .int .i64 t2, .bool t3, .int .i64 t4, .int .i64 t5, .int .i64 t6, .int .i64 t7, .bool t8, .slice ta n2 tac] (i * 10 + 0) _ (HC.out.1.ext E7)
                                have C2X := (HC.out.2.1.ext E7).agree (agree_put (V := EV BP BN) (B := BN) (.inr rfl) [.slice tb n1 tbc, .int .i64 t1, .int .i64 t2, .bool t3, .int .i64 t4, .int .i64 t5, .int .i64 t6, .int .i64 t7, .bool t8, .slice ta n2 tac] (i * 10 + 0) w7)
                                have C3X := (HC.out.2.2.ext E7).agree (agree_put (V := EV BP BN) (B := BN) (.inr rfl) [.slice tb n1 tbc, .int .i64 t1, .int .i64 t2, .bool t3, .int .i64 t4, .int .i64 t5, .int .i64 t6, .int .i64 t7, .bool t8, .slice ta n2 tac] (i * 10 + 0) w7)
                                have TX := (HT.out.ext E7).putOther HXR.out [.slice tb n1 tbc, .int .i64 t1, .int .i64 t2, .bool t3, .int .i64 t4, .int .i64 t5, .int .i64 t6, .int .i64 t7, .bool t8, .slice ta n2 tac] (i * 10 + 0)
                                rw [← putB_eq] at RVX C1X C2X C3X TX
                                obtain ⟨w8, hW9⟩ : ∃ w9, putB w7 BN (i * 10) 0 [.slice tb n1 tbc, .int .i64 t1, .int .i64 t2, .bool t3, .int .i64 t4, .int .i64 t5, .int .i64 t6, .int .i64 t7, .bool t8, .slice ta n2 tac] = w9 := ⟨_, rfl⟩
                                have hW8 := hW9
                                simp only [putB, Nat.reduceAdd, Nat.add_zero] at hW8
                                rw [hW8]
                                clear hW8
                                rw [hW9] at MX RVX C1X C2X C3X TX
                                clear hW9 HM HC HRV HT M7 ff de0 de1 de2 de3 de4 de5 de6 de7 de8 de9
                                have R5 := HXS.out.put (by rw [HXL.out]; exact hlt2) HTS.out
                                go_wp2_with fail
                                go_roundw
                                case rel => exact ⟨i + 1, ys.set i ⟨tx, ⟨t1, t2, t3, t4, t5, t6, t7, t8, tl⟩⟩, R1, R3, by rw [List.length_set]; exact HXL.out, R5, MX, RVX, ⟨C1X, C2X, C3X⟩, TX⟩
                                case measure => exact R4'
                          · have hli : ¬ (i : Int) < n := by omega
                            go_wp2_with fail
                            have R1 : nt + 1 ≤ 2 := hlt
                            have R3 : Value.int .i64 ((nt : Int) + 1) = .int .i64 ((nt + 1 : Nat) : Int) := rfl
                            have R4' := two_up hlt
                            go_roundw
                            case rel => exact ⟨nt + 1, H.length + 1, ys, R1, R3, .inr rfl, fun h => absurd h (by omega), HXL.out, HXS.out.done (by rw [HXL.out]; omega), HM.out, HRV.out, HC.out.1, HC.out.2.1, HC.out.2.2⟩
                            case measure => exact R4'
                      · go_wp2_with fail
                        have R1 : nt + 1 ≤ 2 := hlt
                        have R3 : Value.int .i64 ((nt : Int) + 1) = .int .i64 ((nt + 1 : Nat) : Int) := rfl
                        have R4' := two_up hlt
                        have R2 : m' = H.length → nt + 1 = 0 ∨ (nt + 1 = 1 ∧ lo[k]? = some 0) := fun h => by
                          have hb := HBB.out rfl
                          rcases HMM.out.2 h with rfl | ⟨rfl, h2⟩
                          · exact .inr ⟨rfl, hb⟩
                          · rw [h2] at hb; simp at hb
                        go_roundw
                        case rel => exact ⟨nt + 1, m', xs', R1, R3, HMM.out.1, R2, HXL.out, HXS.out, HM.out, HRV.out, HC.out, F0'.out, F1'.out⟩
                        case measure => exact R4'
                  · have hli : ¬ (nt : Int) < 2 := by omega
                    have hm' : m' = H.length + 1 := by rcases HMM.out.1 with h | h; · have := HMM.out.2 h; omega
                                                       · exact h
                    subst hm'
                    go_wp2_with fail
                    rw [rounds_succ]
                    go_wp2_with fail
                    go_meet
                    exact ⟨(H ++ [(⟨m, (k : Int)⟩ : Snt)]), xs', by rw [List.length_append, List.length_singleton, HSQ.out]; congr 1; omega, HP1.out, by have := HE.out.hl; simp only [List.length_append, List.length_singleton]; omega, HXL.out, by rw [List.length_append, List.length_singleton]; exact HXS.out, HM.out, HRV.out⟩
            case rest =>
              revert a b c d l lo w ic hi2 ja jc hj2 ln hi1 HLN lm HIO hj1 HLM Qf w1 n fr A B gA gB HN W0 X0 TA0 TB0 GB BR w2 cur hn0 W1 BN BP u13 u42 u43 u44 u45 u46 u47 u48 u49 u50 u51 W2 Kf aKf u16 u17 u18 u29 k xs H hk60 hkl sq HSQ hlt1 hk1 hk2 hk0 xa xb HXK ib io HIN HV nl HNL Qr Kr aKr w4 a4 c4 ic2 wr R4 HLT lB0 lB1 pa pc sec hsec ms p1 p2 p3 p4 p5 p6 p7 p8 p9 p10 p11 p12 pl HE y1 y2 y3 y4 y5 y6 y7 y8 y9 y10 y11 y12 yl HPS np nq HNQ nm HNM HI1 u52 u53 u54 u55 u56 u57 u58 u59 u60 u61 u62 u63 u64 u65 u66 u67 u68 u69 u70 u71 u72 u73 u74 u75 u76 u77 u78 u79 u80 u81 u178 u179 u180 u181 u182 u183 u184 u185 u186 u187 u188 u189 u190 u191 u192 u193 u194 u195 u196 u197 u198 u199 u200 u201 u202 u203 u204 u205 u206 u207 u208 u209 u210 u211 u212 u213 u214 qb a5 c5 a6 c6 w5 w6 u19 u82 u83 u84 u85 u86 u87 u88 u89 u90 u91 u92 u93 u94 u95 u96 ys w7 M7 MS7 RV7 HYS K6x aK6 wc u6 u14 u20 u21 u22 u23 u24 u25 u26 u27 u28 u97 u98 u99 u100 u101 u102 u103 u104 u105 u106 u107 u108 u109 u110 u111 u112 u113 u114 u115 u116 u117 u118 u119 u120 u121 u122 u123 u124 u125 u126 u127 u128 u129 u130 u131 u132 u133 u134 u135 u136 u137 u138 u139 u140 u141 u142 u143 u144 u145 u146 u147 u148 u149 u150 u151 u152 u153 u154 u155 u156 u157 u158 u159 u160 u161 u162 u163 u164 u165 u166 u167 u168 u169 u170 u171 u172 u173 u174 u175 u176 u177 hcut
              refine id ?_
              intro a b c d l lo w ic hi2 ja jc hj2 ln hi1 HLN lm HIO hj1 HLM Qf w1 n fr A B gA gB HN W0 X0 TA0 TB0 GB BR w2 cur hn0 W1 BN BP u13 u42 u43 u44 u45 u46 u47 u48 u49 u50 u51 W2 Kf aKf u16 u17 u18 u29 k xs H hk60 hkl sq HSQ hlt1 hk1 hk2 hk0 xa xb HXK ib io HIN HV nl HNL Qr Kr aKr w4 a4 c4 ic2 wr R4 HLT lB0 lB1 pa pc sec hsec ms p1 p2 p3 p4 p5 p6 p7 p8 p9 p10 p11 p12 pl HE y1 y2 y3 y4 y5 y6 y7 y8 y9 y10 y11 y12 yl HPS np nq HNQ nm HNM HI1 u52 u53 u54 u55 u56 u57 u58 u59 u60 u61 u62 u63 u64 u65 u66 u67 u68 u69 u70 u71 u72 u73 u74 u75 u76 u77 u78 u79 u80 u81 u178 u179 u180 u181 u182 u183 u184 u185 u186 u187 u188 u189 u190 u191 u192 u193 u194 u195 u196 u197 u198 u199 u200 u201 u202 u203 u204 u205 u206 u207 u208 u209 u210 u211 u212 u213 u214 qb a5 c5 a6 c6 w5 w6 u19 u82 u83 u84 u85 u86 u87 u88 u89 u90 u91 u92 u93 u94 u95 u96 ys w7 M7 MS7 RV7 HYS K6x aK6 wc u6 u14 u20 u21 u22 u23 u24 u25 u26 u27 u28 u97 u98 u99 u100 u101 u102 u103 u104 u105 u106 u107 u108 u109 u110 u111 u112 u113 u114 u115 u116 u117 u118 u119 u120 u121 u122 u123 u124 u125 u126 u127 u128 u129 u130 u131 u132 u133 u134 u135 u136 u137 u138 u139 u140 u141 u142 u143 u144 u145 u146 u147 u148 u149 u150 u151 u152 u153 u154 u155 u156 u157 u158 u159 u160 u161 u162 u163 u164 u165 u166 u167 u168 u169 u170 u171 u172 u173 u174 u175 u176 u177 hcut
              obtain ⟨H2, zs, rfl, hP, hHl, hzl, hzs, hM, hRV⟩ := hcut
              obtain ⟨w8, hw8⟩ : ∃ W, W = wc := ⟨_, rfl⟩
              subst hw8
              have M8 := Lib.hid hM
              have RV8 := Lib.hid hRV
              have HZS := Lib.hid (And.intro hzl hzs)
              have HP2 := Lib.hid (And.intro hP hHl)
              have HYV := Lib.hid (And.intro HPS.out.1.1 HPS.out.1.2.1)
              clear hM hRV hzl hzs hP hHl M7 MS7 RV7 HYS HPS HSQ
              go_upto_block 12 with fail
              go_wp2_with fail
              go_loopw [29] (fun s wr => ∃ i : Nat, i ≤ n ∧ s = .int .i64 i ∧ EMem W0 wr BP BN ⟨y1, y2, y3, y4, y5, y6, y7, y8, y9, y10, y11, y12, yl⟩ (.slice a5 nq c5) zs ∧ RF (EV BP BN) 6 valE wr (.slice a4 nl c4) (valsI xa)) (fun s _ => n - (intOf s).toNat)
              case atStart => exact ⟨0, Nat.zero_le _, rfl, M8.out, RV8.out⟩
              case round =>
                obtain ⟨i, hi, rfl, hM, hRV⟩ := hrel
                have HM := Lib.hid hM
                have HRV := Lib.hid hRV
                clear M8 RV8 hM hRV
                by_cases hlt2 : i < n
                · have hli : (i : Int) < n := by omega
                  have hli0 : (0 : Int) ≤ i := by omega
                  have R1 : i + 1 ≤ n := hlt2
                  have R4' := mes_up hlt2 (show n ≤ 90 by have := HN.out; omega)
                  have R3 := idx_up hlt2 (show n ≤ 90 by have := HN.out; omega)
                  by_cases hif : i = fr
                  · have hifb : ((i : Int) == (fr : Int)) = true := beq_iff_eq.2 (by omega)
                    have hifc : (i : Int) = fr := by omega
                    have HIF := Lib.hid hif
                    clear hif
                    go_wp2_with fail
                    go_roundw
                    case rel => exact ⟨i + 1, R1, (by first | exact R3 | (rw [← HIF.out]; exact R3)), HM.out, HRV.out⟩
                    case measure => (first | exact R4' | (rw [← HIF.out]; exact R4') | (rw [← HIF.out] at R4'; exact R4'))
                  · have hifb : ((i : Int) == (fr : Int)) = false := beq_eq_false_iff_ne.2 (fun h => hif (by omega))
                    have hifc : ¬ (i : Int) = fr := by omega
                    have HIF := Lib.hid hif
                    clear hif
                    obtain ⟨x, hx⟩ : ∃ x, zs[i]? = some x := ⟨_, List.getElem?_eq_getElem (by rw [HZS.out.1]; exact hlt2)⟩
                    obtain ⟨hv1, hv2, hv3⟩ := (HZS.out.2 i x hx).done HP2.out.1 HYV.out.2 HIF.out
                    have HXI := Lib.hid hx
                    have HVA := Lib.hid (fun w1 v => valid_any x.sub v w1)
                    rw [hv1] at HVA
                    obtain ⟨ca, cc, ca', cc', hcell, _, rsub⟩ := HM.out.sn.get hx
                    have HSV := Lib.hid (fun va vb w1 h h' => sameVals_any (valsI xa) (valsI xa) va vb w1 h h')
                    simp only [decide_true] at HSV
                    have hv2' := hv2.trans HYV.out.1
                    have HRS := Lib.hid (fun w1 (he : Ext wr w1) => (rsub.ext he).weak (by omega) (V' := Any) (fun _ _ h => h.elim))
                    have HRV' := Lib.hid (fun w1 (he : Ext wr w1) => (HRV.out.ext he).weak (by omega) (V' := Any) (fun _ _ h => h.elim))
                    obtain ⟨xb, ⟨s1, s2, s3, s4, s5, s6, s7, s8, sl⟩⟩ := x
                    simp only at *
                    subst hv2' hv3
                    generalize xb.length = n3 at *
                    generalize (valsI xa).length = n4 at *
                    clear hx rsub hv1 hv2
                    have ce0 : wr.cell? ⟨BN, i * 10 + 1, none⟩ = some (.int .i64 s1) := hcell 1 (by decide)
                    have ce1 : wr.cell? ⟨BN, i * 10 + 1 + 1, none⟩ = some (.int .i64 s2) := hcell 2 (by decide)
                    have ce2 : wr.cell? ⟨BN, i * 10 + 1 + 2, none⟩ = some (.bool s3) := hcell 3 (by decide)
                    have ce3 : wr.cell? ⟨BN, i * 10 + 1 + 3, none⟩ = some (.int .i64 s4) := hcell 4 (by decide)
                    have ce4 : wr.cell? ⟨BN, i * 10 + 1 + 4, none⟩ = some (.int .i64 s5) := hcell 5 (by decide)
                    have ce5 : wr.cell? ⟨BN, i * 10 + 1 + 5, none⟩ = some (.int .i64 s6) := hcell 6 (by decide)
                    have ce6 : wr.cell? ⟨BN, i * 10 + 1 + 6, none⟩ = some (.int .i64 0) := hcell 7 (by decide)
                    have ce7 : wr.cell? ⟨BN, i * 10 + 1 + 7, none⟩ = some (.bool s8) := hcell 8 (by decide)
                    have ce8 : wr.cell? ⟨BN, i * 10 + 1 + 8, none⟩ = some (.slice ca' n4 cc') := hcell 9 (by decide)
                    go_wp2_with fail
                    refine (HVA.out _ _).mono ?_
                    rintro e w4 ⟨rfl, x4⟩
                    have de8 := x4.cell ce8
                    have de6 := x4.cell ce6
                    clear ce0 ce1 ce2 ce3 ce4 ce5 ce6 ce7 ce8
                    go_wp2_with fail
                    refine (HSV.out _ _ _ (HRS.out _ x4) (HRV'.out _ x4)).mono ?_
                    rintro e w5 ⟨rfl, x5⟩
                    have ee6 := x5.cell de6
                    clear de6 de8
                    go_wp2_with fail
                    go_roundw
                    case rel => exact ⟨i + 1, R1, R3, HM.out.to (x4.trans x5), HRV.out.ext (x4.trans x5)⟩
                    case measure => exact R4'
                · have hli : ¬ (i : Int) < n := by omega
                  go_wp2_with fail
                  have hk60' := hlt1.2
                  have hkl' := hlt1.1
                  have R3 : Value.int .i64 ((k : Int) + 1) = .int .i64 ((k + 1 : Nat) : Int) := rfl
                  have R4' := kes_up2 hk60'
                  go_roundw
                  case rel => exact ⟨k + 1, ⟨y1, y2, y3, y4, y5, y6, y7, y8, y9, y10, y11, y12, yl⟩, zs, H2, .slice a5 nq c5, hk60', hkl', R3, rfl, ⟨by rw [show (((k + 1 : Nat) : Int) - 1) = k by omega]; exact HP2.out.1, HP2.out.2, HZS.out.1, by rw [show (((k + 1 : Nat) : Int) - 1) = k by omega]; exact HZS.out.2⟩, HM.out⟩
                  case measure => exact R4'
      · have hkk : (¬ (k : Int) < ln) ∨ ((k : Int) < ln ∧ ¬ (k : Int) < 60) := by omega
        rcases hkk with hk1 | ⟨hk1, hk2⟩
        · go_wp2_with fail
          go_ret
          exact ⟨rfl, X0.out.trans HM.out.ext⟩
        · go_wp2_with fail
          go_ret
          exact ⟨rfl, X0.out.trans HM.out.ext⟩
end Go.Proofs.Ytimnepfdpehdmaa
