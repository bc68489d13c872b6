/- The walk of the statement PublisherPrompt. -/
import Derived.Test.YtopmhaebjpmbfaaPubK
import Derived.Test.YtopmhaebjpmbfaaPubL
import Derived.Test.YtopmhaebjpmbfaaInp
namespace Go.Proofs.Ytopmhaebjpmbfaa
open Go.RowKit
attribute [local go_sem ↓] Go.wp_at_zero Go.wp_at_succ

theorem msg_ok {N : Int} {s : PSt} (hN : N ≤ 4294967295) (h : Good 7 9 N s) (hs : s.started = true) : chkM ⟨s.pub, 3 * s.gap + 1, s.sec, s.frac, s.qual, s.state, s.seq, false, s.rev, s.vals⟩ = 0 := by
  have h1 := cur_ok (by omega) (by omega) hN h hs
  have h2 := h.bnd
  unfold curS at h1
  rwa [bnd_in (n := s.gap) (by omega) (by omega)] at h1
/-- The values of the last step. -/
def Lrel (k : Nat) (s : PSt) (la : Int) : Prop := Good 7 9 k s ∧ ((la = -1 ∧ s.started = false) ∨ (0 ≤ la ∧ la < 3 ∧ s.started = true ∧ s.vals = valsOf la))
/-- What a step sends. -/
def Sent (s : PSt) (la kk tt : Int) (ms : List Msg) : Prop :=
  (la = kk ∧ ms = []) ∨ ∃ m2 m3 m4 m5 m6 m7 m8, ms = [⟨7, m2, m3, m4, m5, m6, m7, m8, 9, valsOf kk⟩] ∧ chkM ⟨7, m2, m3, m4, m5, m6, m7, m8, 9, valsOf kk⟩ = 0 ∧ (la = kk ∨ (la ≠ kk ∧ m7 = 0 ∧ m6 = s.state + 1 ∧ m3 = tt ∧ m4 = 0 ∧ m5 = 0))
theorem Lrel.state {k : Nat} {s : PSt} {la : Int} (h : Lrel k s la) : 0 ≤ s.state ∧ s.state ≤ k := by
  cases hs : s.started
  · have := h.1.off hs; omega
  · have := h.1.on hs; omega
theorem pro_step {k : Nat} {s s' : PSt} {ms : List Msg} {la kk tt : Int} (hk : k ≤ 200) (hL : Lrel k s la) (hkk : 0 ≤ kk ∧ kk < 3) (ht : stErr tt 0 0 = 0) (h : stepS s (valsOf kk) tt 0 0 = (s', ms)) :
    Lrel (k + 1) s' kk ∧ Sent s la kk tt ms := by
  obtain ⟨hG, hJ⟩ := hL
  obtain ⟨ve, vl⟩ := vals_ok kk
  have e7 := hG.pub
  have e9 := hG.rev
  by_cases hd1 : dueS s (valsOf kk) = 1
  · obtain ⟨e1, hG1⟩ := step_change (a := tt) (b := 0) (c := 0) (l := valsOf kk) (by omega) (by omega) (by omega) hG ht ve vl hd1
    have hck := msg_ok (N := (k : Int) + 1) (by omega) hG1 rfl
    rw [h] at e1
    simp only [Prod.mk.injEq] at e1
    obtain ⟨rfl, rfl⟩ := e1
    refine ⟨⟨by simpa using hG1, .inr ⟨hkk.1, hkk.2, rfl, rfl⟩⟩, .inr ⟨_, _, _, _, _, _, _, by rw [e7, e9], by rw [e7, e9] at hck; exact hck, .inr ⟨?_, rfl, rfl, rfl, rfl, rfl⟩⟩⟩
    rcases hJ with ⟨h1, _⟩ | ⟨_, _, h2, h3⟩
    · omega
    · intro e
      rcases due_change hd1 with h4 | h4
      · rw [h2] at h4; cases h4
      · exact h4 (by rw [h3, e])
  · obtain ⟨hs, hvv⟩ := due_other hd1
    have hlk : la = kk := by
      rcases hJ with ⟨_, h2⟩ | ⟨h1, h2, _, h3⟩
      · rw [hs] at h2; cases h2
      · exact vals_inj ⟨h1, h2⟩ hkk (by rw [← h3, hvv])
    have hd := due_two hs hvv
    by_cases hdue : s.since + 1 = s.gap
    · rw [if_pos hdue] at hd
      obtain ⟨e1, hG1⟩ := step_repeat (a := tt) (b := 0) (c := 0) (by omega) (by omega) (by omega) hG hd
      have hck := msg_ok (N := (k : Int) + 1) (by omega) hG1 hs
      rw [h] at e1
      simp only [Prod.mk.injEq] at e1
      obtain ⟨rfl, rfl⟩ := e1
      refine ⟨⟨by simpa using hG1, .inr ⟨hkk.1, hkk.2, hs, hvv.symm⟩⟩, .inr ⟨_, _, _, _, _, _, _, by rw [e7, e9, hvv], by simp only [e7, e9] at hck; rw [hvv]; exact hck, .inl hlk⟩⟩
    · rw [if_neg hdue] at hd
      obtain ⟨e1, hG1⟩ := step_still (a := tt) (b := 0) (c := 0) hG hd
      rw [h] at e1
      simp only [Prod.mk.injEq] at e1
      obtain ⟨rfl, rfl⟩ := e1
      exact ⟨⟨by simpa using hG1, .inr ⟨hkk.1, hkk.2, hs, hvv.symm⟩⟩, .inl ⟨hlk, rfl⟩⟩

set_option maxRecDepth 100000 in
set_option maxHeartbeats 16000000 in
theorem prompt_walk (x y : Int) (l : List (Int × Int)) (v : Value) (w : World) (hl : RF Any 2 inpE w v l) : Calls Try.prog 3 #[.int .i64 x, .int .i64 y, v] w fun e w' => e = .returned (.bool true) ∧ Ext w w' := by
  have HK := Lib.hid (known13_any w)
  have HMD := Lib.hid (fun w1 => made_any x y w1)
  obtain ⟨f1, f2, f3, f4⟩ := made_le x y
  generalize fst13 x = F at *
  generalize max13 x y = M at *
  have HIN := Lib.hid (fun w1 (he : Ext w w1) => hl.ext he)
  obtain ⟨ia, ic, rfl, hi1, hi2⟩ := hl.form
  unfold maxLen at hi2
  clear hl
  generalize hln : l.length = ln at *
  have HLN := Lib.hid hln
  clear hln
  go_enter Try.func3, Try.ntmps3
  go_wp2_with fail
  refine HK.out.mono ?_
  rintro e w1 ⟨rfl, x1⟩
  go_wp2_with fail
  refine (HMD.out _).mono ?_
  rintro e w2 ⟨rfl, x2⟩
  simp only [newS]
  have X2 := x1.trans x2
  have HB := Lib.hid X2.size
  go_wp2_with fail
  have B2 := Bk.new w2 #[.int .i64 7, .int .i64 F, .int .i64 M, .int .i64 9, .bool false, .int .i64 0, .int .i64 0, .int .i64 0, .int .i64 0, .int .i64 0, .int .i64 0, .int .i64 0, .slice none 0 0] 28 w2.heap.size rfl
  have X3 := X2.alloc (.cells #[.int .i64 7, .int .i64 F, .int .i64 M, .int .i64 9, .bool false, .int .i64 0, .int .i64 0, .int .i64 0, .int .i64 0, .int .i64 0, .int .i64 0, .int .i64 0, .slice none 0 0] 28)
  generalize w2.alloc (.cells #[.int .i64 7, .int .i64 F, .int .i64 M, .int .i64 9, .bool false, .int .i64 0, .int .i64 0, .int .i64 0, .int .i64 0, .int .i64 0, .int .i64 0, .int .i64 0, .slice none 0 0] 28) = W at *
  generalize w2.heap.size = B at *
  clear X2 x1 x2 HK HMD
  go_loopw [8, 9] (fun la i wr => ∃ (k : Nat) (s : PSt) (zl : Int) (a : Option Addr) (c : Nat), (k ≤ ln ∧ k ≤ 200) ∧ i = .int .i64 k ∧ la = .int .i64 zl ∧ Lrel k s zl ∧ Bk wr B 28 (pubC s (.slice a s.vals.length c)) ∧ RF (· = B) 6 valE wr (.slice a s.vals.length c) s.vals ∧ Ext w wr) (fun _ i _ => 200 - (intOf i).toNat)
  case atStart => exact ⟨0, newS 7 F M 9, -1, none, 0, by omega, rfl, rfl, ⟨Good.new f1 f3 f4, .inl ⟨rfl, rfl⟩⟩, B2, RF.nil _ _ _ _, X3⟩
  case round =>
    obtain ⟨k, s, la, a0, c0, ⟨hk, hk2⟩, rfl, rfl, hJ, hBk, hR, hx⟩ := hrel
    clear B2 X3
    by_cases hlt : k < ln ∧ k < 200
    · obtain ⟨hlt1, hlt2⟩ := hlt
      obtain ⟨xk, hxk⟩ : ∃ x, l[k]? = some x := ⟨_, List.getElem?_eq_getElem (by rw [HLN.out]; exact hlt1)⟩
      obtain ⟨ib, io, ic', hv1, i0, i1⟩ := inp_get (HIN.out wr hx) hxk
      rw [HLN.out] at hv1
      simp only [Value.slice.injEq] at hv1
      obtain ⟨rfl, -, rfl⟩ := hv1
      have HST := Lib.hid (fun w1 => stamp_any xk w1)
      clear hxk
      obtain ⟨p, q⟩ := xk
      simp only at i0 i1 HST
      have HW := Lib.hid (fun w1 => within13_any p 3 w1 (by omega) (by omega))
      obtain ⟨kk, hkk⟩ : ∃ kk, p % 3 = kk := ⟨_, rfl⟩
      have hkk2 : 0 ≤ kk ∧ kk < 3 := by omega
      rw [hkk] at HW
      clear hkk
      have HV := Lib.hid (fun w1 => values_any kk w1)
      have HV2 := Lib.hid hkk2
      obtain ⟨ve, vl⟩ := vals_ok kk
      have ht : stErr (q % 4294967296) 0 0 = 0 := by unfold stErr; rw [if_neg (by omega)]
      generalize q % 4294967296 = tt at *
      obtain ⟨hb1, hb2, hb3, hb4⟩ := hJ.1.bnd
      have h6 := hJ.state
      have hmod : Mod s := by
        have h0 : 0 ≤ s.state ∧ s.state ≤ 3000 ∧ 0 ≤ s.seq ∧ s.seq ≤ 3000 := by
          cases hs : s.started
          · have := hJ.1.off hs; omega
          · have := hJ.1.on hs; omega
        exact ⟨by omega, by omega, by omega⟩
      have hvl := hJ.1.vl
      have HS := Lib.hid (fun w1 v u (h : RF Any 6 valE w1 v s.vals) (h2 : RF Any 6 valE w1 u (valsOf kk)) => step_any s (valsOf kk) tt 0 0 v u w1 h h2 (by omega) (by omega) hmod)
      obtain ⟨s', ms, hst⟩ : ∃ s' ms, stepS s (valsOf kk) tt 0 0 = (s', ms) := ⟨_, _, rfl⟩
      obtain ⟨hG1, hSe⟩ := pro_step hk2 hJ hkk2 ht hst
      rw [hst] at HS
      have HG1 := Lib.hid hG1
      have HSE := Lib.hid hSe
      have q0 := hBk.cell
      have HBA := Lib.hid (fun w' (he : Ext wr w') => hBk.ext he)
      have HBC := Lib.hid (fun w' (he : Ext wr w') => And.intro (hBk.ext he).cell (And.intro (he.cell i0) (he.cell i1)))
      have HRA := Lib.hid (fun w' (he : Ext wr w') => (hR.ext he).weak (by omega) (V' := Any) (fun _ _ h => h.elim))
      have HX := Lib.hid hx
      have lB0 := hBk.lt
      have lI0 := World.block_lt_of_cell? wr _ i0
      clear hBk hR hx hst hG1 hSe hJ ht ve
      have hki : (k : Int) < ln := by omega
      have hki2 : (k : Int) < 200 := by omega
      clear hmod hkk2
      obtain ⟨s1, s2, s3, s4, s5, s6, s7, s8, s9, s10, s11, s12, vs⟩ := s
      obtain ⟨st1, st2, st3, st4, st5, st6, st7, st8, st9, st10, st11, st12, L⟩ := s'
      simp only at *
      obtain ⟨h61, h62⟩ := h6
      generalize hnL : L.length = nL at *
      have HL1 := Lib.hid hnL
      generalize hnK : (valsOf kk).length = nK at *
      have HLK := Lib.hid hnK
      generalize hnm : ms.length = nm at *
      have HNM := Lib.hid hnm
      generalize vs.length = n0 at *
      clear hnL hnK hnm
      go_upto_region 9 with ((go_at_call 16; (with_reducible refine (HW.out _).mono ?_); rintro e wq ⟨rfl, rfl⟩))
      go_cut [11, 12] (fun t m wx => ∃ (tb : Nat) (a5 : Option Addr) (c5 : Nat) (a6 : Option Addr) (c6 : Nat), t = .pointer (some ⟨tb, 0, none⟩) ∧ m = .slice a6 nm c6 ∧ Aft wr wx B tb #[.int .i64 s1, .int .i64 s2, .int .i64 s3, .int .i64 s4, .bool s5, .int .i64 s6, .int .i64 s7, .int .i64 s8, .int .i64 s9, .int .i64 s10, .int .i64 s11, .int .i64 s12, .slice a0 n0 c0] ⟨st1, st2, st3, st4, st5, st6, st7, st8, st9, st10, st11, st12, L⟩ ms a5 c5 a6 c6)
      case first =>
        clear HV2
        go_region_held3 (fun w' => (∀ j, w'.cell? ⟨B, j, none⟩ = (#[.int .i64 s1, .int .i64 s2, .int .i64 s3, .int .i64 s4, .bool s5, .int .i64 s6, .int .i64 s7, .int .i64 s8, .int .i64 s9, .int .i64 s10, .int .i64 s11, .int .i64 s12, .slice a0 n0 c0] : Array Value)[j]?) ∧ w'.cell? ⟨ib, io + k * 2, none⟩ = some (.int .i64 p) ∧ w'.cell? ⟨ib, io + k * 2 + 1, none⟩ = some (.int .i64 q))
          (first | (with_reducible exact ⟨q0, i0, i1⟩) | (exact HBC.out _ (by first | (with_reducible exact (Ext.refl wr).drew) | (with_reducible exact ((Ext.refl wr).alloc _).drew) | (with_reducible exact (Ext.refl wr).drew.alloc _) | (with_reducible exact E4) | (with_reducible exact E4.alloc _) | (with_reducible exact Es) | (with_reducible exact Es.alloc _) | (with_reducible exact E5) | (with_reducible exact E5.alloc _) | (with_reducible exact (Ext.refl wr)))) | (refine ⟨fun j => ?_, ?_, ?_⟩ <;> (repeat rw [World.cell?_setCell_other _ _ _ _ (by first | (simp; done) | (simp; omega))]) <;> first | (with_reducible exact (HBC.out _ E5).1 j) | (with_reducible exact (HBC.out _ E5).2.1) | (with_reducible exact (HBC.out _ E5).2.2)) | fail)
          (first
            | (go_at_call 18; (with_reducible refine (HV.out _).mono ?_); rintro e w4 ⟨a4, c4, he, x4, r4⟩; rw [HLK.out] at he r4; subst he; have E4 : Ext wr w4 := Ext.trans (by first | (with_reducible exact (Ext.refl wr).drew) | (with_reducible exact ((Ext.refl wr).alloc _).drew) | (with_reducible exact (Ext.refl wr).drew.alloc _)) x4; have lB4 : B < w4.heap.size := E4.lt lB0; have lI4 : ib < w4.heap.size := E4.lt lI0; (first | (with_reducible have T4 := Lib.hid ((Bk.new wr #[.int .i64 0, .int .i64 0, .int .i64 0, .int .i64 0, .bool false, .int .i64 0, .int .i64 0, .int .i64 0, .int .i64 0, .int .i64 0, .int .i64 0, .int .i64 0, .slice none 0 0] 28 wr.heap.size rfl).drew.ext x4)) | (with_reducible have T4 := Lib.hid ((Bk.new wr.drew #[.int .i64 0, .int .i64 0, .int .i64 0, .int .i64 0, .bool false, .int .i64 0, .int .i64 0, .int .i64 0, .int .i64 0, .int .i64 0, .int .i64 0, .int .i64 0, .slice none 0 0] 28 wr.heap.size rfl).ext x4)) | (have T4 := Lib.hid True.intro)); have Ha4 := Lib.hid (fun w' (he : Ext w4 w') => (r4.ext he).weak (by omega) (V' := Any) (fun _ _ h => h.elim)); clear r4)
            | (go_at_call 19; (with_reducible refine (HST.out _).mono ?_); rintro e ws ⟨rfl, xs⟩; have F4 : Ext w4 ws := Ext.trans (by first | (with_reducible exact Ext.refl w4) | (with_reducible exact (Ext.refl w4).alloc _)) xs; have Es : Ext wr ws := E4.trans F4; have lBs : B < ws.heap.size := Es.lt lB0; have lIs : ib < ws.heap.size := Es.lt lI0; (first | (with_reducible have Ts := Lib.hid ((Bk.new w4 #[.int .i64 0, .int .i64 0, .int .i64 0, .int .i64 0, .bool false, .int .i64 0, .int .i64 0, .int .i64 0, .int .i64 0, .int .i64 0, .int .i64 0, .int .i64 0, .slice none 0 0] 28 w4.heap.size rfl).ext xs)) | (with_reducible have Ts := Lib.hid (T4.out.ext xs)) | (have Ts := Lib.hid True.intro)))
            | (go_at_call 17; (with_reducible refine (HS.out _ _ _ (HRA.out _ (by first | (with_reducible exact Es) | (with_reducible exact Es.alloc _))) (Ha4.out _ (by first | (with_reducible exact F4) | (with_reducible exact F4.alloc _)))).mono ?_); rintro e w5 ⟨a5, c5, a6, c6, he, x5, r5, m5⟩; simp only [HL1.out, HNM.out] at he; subst he; have E5 : Ext wr w5 := Ext.trans (by first | (with_reducible exact Es) | (with_reducible exact Es.alloc _)) x5; (first | (with_reducible have T5 := Lib.hid ((Bk.new ws #[.int .i64 0, .int .i64 0, .int .i64 0, .int .i64 0, .bool false, .int .i64 0, .int .i64 0, .int .i64 0, .int .i64 0, .int .i64 0, .int .i64 0, .int .i64 0, .slice none 0 0] 28 ws.heap.size rfl).ext x5)) | (with_reducible have T5 := Lib.hid (Ts.out.ext x5)) | (have T5 := Lib.hid True.intro)); (try have tc5 := T5.out.cell); (try have tf5 := T5.out.frozen))
            | fail)
        all_goals
          first
            | (with_reducible have hA0 := aft_put (n := ⟨st1, st2, st3, st4, st5, st6, st7, st8, st9, st10, st11, st12, L⟩) (Es.alloc (.cells #[.int .i64 0, .int .i64 0, .int .i64 0, .int .i64 0, .bool false, .int .i64 0, .int .i64 0, .int .i64 0, .int .i64 0, .int .i64 0, .int .i64 0, .int .i64 0, .slice none 0 0] 28)) x5 (HBA.out _ (Es.alloc _)) (Bk.new ws #[.int .i64 0, .int .i64 0, .int .i64 0, .int .i64 0, .bool false, .int .i64 0, .int .i64 0, .int .i64 0, .int .i64 0, .int .i64 0, .int .i64 0, .int .i64 0, .slice none 0 0] 28 ws.heap.size rfl) rfl (by omega) (Es.size) r5 m5
               have hA : Aft wr (put w5 ws.heap.size 0 [.int .i64 st1, .int .i64 st2, .int .i64 st3, .int .i64 st4, .bool st5, .int .i64 st6, .int .i64 st7, .int .i64 st8, .int .i64 st9, .int .i64 st10, .int .i64 st11, .int .i64 st12, .slice a5 nL c5]) B ws.heap.size #[.int .i64 s1, .int .i64 s2, .int .i64 s3, .int .i64 s4, .bool s5, .int .i64 s6, .int .i64 s7, .int .i64 s8, .int .i64 s9, .int .i64 s10, .int .i64 s11, .int .i64 s12, .slice a0 n0 c0] ⟨st1, st2, st3, st4, st5, st6, st7, st8, st9, st10, st11, st12, L⟩ ms a5 c5 a6 c6 := by simpa only [HL1.out] using hA0
               clear hA0
               change Exit.then _ _ _ _ (put w5 ws.heap.size 0 [.int .i64 st1, .int .i64 st2, .int .i64 st3, .int .i64 st4, .bool st5, .int .i64 st6, .int .i64 st7, .int .i64 st8, .int .i64 st9, .int .i64 st10, .int .i64 st11, .int .i64 st12, .slice a5 nL c5])
               generalize put w5 ws.heap.size 0 [.int .i64 st1, .int .i64 st2, .int .i64 st3, .int .i64 st4, .bool st5, .int .i64 st6, .int .i64 st7, .int .i64 st8, .int .i64 st9, .int .i64 st10, .int .i64 st11, .int .i64 st12, .slice a5 nL c5] = w6 at *
               have HA := Lib.hid hA
               clear hA
               go_wp2_with fail
               go_meet
               exact ⟨ws.heap.size, a5, c5, a6, c6, rfl, rfl, HA.out⟩)
            | (with_reducible have hA0 := aft_put (n := ⟨st1, st2, st3, st4, st5, st6, st7, st8, st9, st10, st11, st12, L⟩) (Es) x5 (HBA.out _ Es) ((show Bk ws w4.heap.size 28 #[.int .i64 0, .int .i64 0, .int .i64 0, .int .i64 0, .bool false, .int .i64 0, .int .i64 0, .int .i64 0, .int .i64 0, .int .i64 0, .int .i64 0, .int .i64 0, .slice none 0 0] from Ts.out)) rfl (by omega) (E4.size) r5 m5
               have hA : Aft wr (put w5 w4.heap.size 0 [.int .i64 st1, .int .i64 st2, .int .i64 st3, .int .i64 st4, .bool st5, .int .i64 st6, .int .i64 st7, .int .i64 st8, .int .i64 st9, .int .i64 st10, .int .i64 st11, .int .i64 st12, .slice a5 nL c5]) B w4.heap.size #[.int .i64 s1, .int .i64 s2, .int .i64 s3, .int .i64 s4, .bool s5, .int .i64 s6, .int .i64 s7, .int .i64 s8, .int .i64 s9, .int .i64 s10, .int .i64 s11, .int .i64 s12, .slice a0 n0 c0] ⟨st1, st2, st3, st4, st5, st6, st7, st8, st9, st10, st11, st12, L⟩ ms a5 c5 a6 c6 := by simpa only [HL1.out] using hA0
               clear hA0
               change Exit.then _ _ _ _ (put w5 w4.heap.size 0 [.int .i64 st1, .int .i64 st2, .int .i64 st3, .int .i64 st4, .bool st5, .int .i64 st6, .int .i64 st7, .int .i64 st8, .int .i64 st9, .int .i64 st10, .int .i64 st11, .int .i64 st12, .slice a5 nL c5])
               generalize put w5 w4.heap.size 0 [.int .i64 st1, .int .i64 st2, .int .i64 st3, .int .i64 st4, .bool st5, .int .i64 st6, .int .i64 st7, .int .i64 st8, .int .i64 st9, .int .i64 st10, .int .i64 st11, .int .i64 st12, .slice a5 nL c5] = w6 at *
               have HA := Lib.hid hA
               clear hA
               go_wp2_with fail
               go_meet
               exact ⟨w4.heap.size, a5, c5, a6, c6, rfl, rfl, HA.out⟩)
            | (with_reducible have hA0 := aft_put (n := ⟨st1, st2, st3, st4, st5, st6, st7, st8, st9, st10, st11, st12, L⟩) (Es) x5 (HBA.out _ Es) ((show Bk ws wr.heap.size 28 #[.int .i64 0, .int .i64 0, .int .i64 0, .int .i64 0, .bool false, .int .i64 0, .int .i64 0, .int .i64 0, .int .i64 0, .int .i64 0, .int .i64 0, .int .i64 0, .slice none 0 0] from Ts.out)) rfl (by omega) (Nat.le_refl _) r5 m5
               have hA : Aft wr (put w5 wr.heap.size 0 [.int .i64 st1, .int .i64 st2, .int .i64 st3, .int .i64 st4, .bool st5, .int .i64 st6, .int .i64 st7, .int .i64 st8, .int .i64 st9, .int .i64 st10, .int .i64 st11, .int .i64 st12, .slice a5 nL c5]) B wr.heap.size #[.int .i64 s1, .int .i64 s2, .int .i64 s3, .int .i64 s4, .bool s5, .int .i64 s6, .int .i64 s7, .int .i64 s8, .int .i64 s9, .int .i64 s10, .int .i64 s11, .int .i64 s12, .slice a0 n0 c0] ⟨st1, st2, st3, st4, st5, st6, st7, st8, st9, st10, st11, st12, L⟩ ms a5 c5 a6 c6 := by simpa only [HL1.out] using hA0
               clear hA0
               change Exit.then _ _ _ _ (put w5 wr.heap.size 0 [.int .i64 st1, .int .i64 st2, .int .i64 st3, .int .i64 st4, .bool st5, .int .i64 st6, .int .i64 st7, .int .i64 st8, .int .i64 st9, .int .i64 st10, .int .i64 st11, .int .i64 st12, .slice a5 nL c5])
               generalize put w5 wr.heap.size 0 [.int .i64 st1, .int .i64 st2, .int .i64 st3, .int .i64 st4, .bool st5, .int .i64 st6, .int .i64 st7, .int .i64 st8, .int .i64 st9, .int .i64 st10, .int .i64 st11, .int .i64 st12, .slice a5 nL c5] = w6 at *
               have HA := Lib.hid hA
               clear hA
               go_wp2_with fail
               go_meet
               exact ⟨wr.heap.size, a5, c5, a6, c6, rfl, rfl, HA.out⟩)
            | (have hA0 := aft_new (n := ⟨st1, st2, st3, st4, st5, st6, st7, st8, st9, st10, st11, st12, L⟩) Es x5 (HBA.out _ Es) r5 m5
               have hA : Aft wr (w5.alloc (.cells #[.int .i64 st1, .int .i64 st2, .int .i64 st3, .int .i64 st4, .bool st5, .int .i64 st6, .int .i64 st7, .int .i64 st8, .int .i64 st9, .int .i64 st10, .int .i64 st11, .int .i64 st12, .slice a5 nL c5] 28)) B w5.heap.size #[.int .i64 s1, .int .i64 s2, .int .i64 s3, .int .i64 s4, .bool s5, .int .i64 s6, .int .i64 s7, .int .i64 s8, .int .i64 s9, .int .i64 s10, .int .i64 s11, .int .i64 s12, .slice a0 n0 c0] ⟨st1, st2, st3, st4, st5, st6, st7, st8, st9, st10, st11, st12, L⟩ ms a5 c5 a6 c6 := by simpa only [HL1.out] using hA0
               clear hA0
               generalize w5.alloc (.cells #[.int .i64 st1, .int .i64 st2, .int .i64 st3, .int .i64 st4, .bool st5, .int .i64 st6, .int .i64 st7, .int .i64 st8, .int .i64 st9, .int .i64 st10, .int .i64 st11, .int .i64 st12, .slice a5 nL c5] 28) = w6 at *
               have HA := Lib.hid hA
               clear hA
               go_wp2_with fail
               go_meet
               exact ⟨w5.heap.size, a5, c5, a6, c6, rfl, rfl, HA.out⟩)
      case rest =>
        obtain ⟨tb, a5, c5, a6, c6, rfl, rfl, hT, hSb, hne2, hR5, hM5, hx5⟩ := hcut
        simp only [HL1.out] at hT hR5
        obtain ⟨wA, rfl⟩ : ∃ wA, wA = wc := ⟨_, rfl⟩
        have HT0 := Lib.hid hT
        have HSb0 := Lib.hid hSb
        have HR50 := Lib.hid hR5
        have HX5 := Lib.hid (HX.out.trans hx5)
        have j0 := hx5.cell i0
        have j1 := hx5.cell i1
        have b5 : wA.cell? ⟨B, 5, none⟩ = some (.int .i64 s6) := hSb.cell 5
        clear hT hSb hR5 hx5 i0 i1 q0
        go_upto_region 10 with fail
        go_cut [82] (fun c wx => c = .bool false ∧ Ext wA wx)
        case first =>
          clear HV HS HBA HBC HRA HW
          by_cases hkl : la = kk
          · subst hkl
            have hll : (la != la) = false := by simp
            clear hM5 j0 j1 b5
            go_quiet (fail)
            go_wp2_with fail
            go_meet
            exact ⟨rfl, (Ext.refl wA).drewN _⟩
          · rcases HSE.out with ⟨h0, _⟩ | ⟨m2, m3, m4, m5, m6, m7, m8, hms, hck, hh⟩
            · exact absurd h0 hkl
            · rcases hh with h0 | ⟨_, rfl, rfl, rfl, rfl, rfl⟩
              · exact absurd h0 hkl
              · subst hms
                obtain rfl : nm = 1 := HNM.out.symm
                clear hck
                generalize hLK : valsOf kk = K at *
                have hkl2 : (kk != la) = true := by simp only [bne_iff_ne, ne_eq]; intro h; exact hkl h.symm
                clear hkl hLK
                obtain ⟨mb, mo, mc, ma, mc', hvm, _, g0, g1, g2, g3, g4, g5, g6, g7, g8, g9, hrm⟩ := msg_get hM5
                simp only [Value.slice.injEq, List.length_cons, List.length_nil, Nat.zero_add] at hvm
                obtain ⟨rfl, -, rfl⟩ := hvm
                simp only [HLK.out] at g0 g1 g2 g3 g4 g5 g6 g7 g8 g9 hrm

                clear g0 g1 g7 g8 g9 hrm
                have HK10 := Lib.hid (fun w' (he : Ext wA w') => And.intro (he.cell g2) (And.intro (he.cell g3) (And.intro (he.cell g4) (And.intro (he.cell g5) (And.intro (he.cell g6) (And.intro (he.cell b5) (And.intro (he.cell j0) (he.cell j1))))))))
                have hns := fun W => neq_stamp_same m3 0 0 W
                have e61 : IntKind.i64.wrap (s6 + 1) = s6 + 1 := IntWalk.i64_in _ (by omega)
                go_region_held3 (fun w' => w'.cell? ⟨mb, mo + 2, none⟩ = some (.int .i64 m3) ∧ w'.cell? ⟨mb, mo + 3, none⟩ = some (.int .i64 0) ∧ w'.cell? ⟨mb, mo + 4, none⟩ = some (.int .i64 0) ∧ w'.cell? ⟨mb, mo + 5, none⟩ = some (.int .i64 (s6 + 1)) ∧ w'.cell? ⟨mb, mo + 6, none⟩ = some (.int .i64 0) ∧ w'.cell? ⟨B, 5, none⟩ = some (.int .i64 s6) ∧ w'.cell? ⟨ib, io + k * 2, none⟩ = some (.int .i64 p) ∧ w'.cell? ⟨ib, io + k * 2 + 1, none⟩ = some (.int .i64 q))
                  (first | (with_reducible exact ⟨g2, g3, g4, g5, g6, b5, j0, j1⟩) | (exact HK10.out _ (by first | (with_reducible exact (Ext.refl wA).drew) | (with_reducible exact E7))) | fail)
                  (first
                    | (go_at_call 19; (with_reducible refine (HST.out _).mono ?_); rintro e w7 ⟨rfl, y0⟩; have E7 : Ext wA w7 := (Ext.refl wA).drew.trans y0; clear y0)
                    | fail)
                go_wp2_with fail
                go_meet
                exact ⟨rfl, E7⟩
        case rest =>
          obtain ⟨rfl, xA⟩ := hcut
          obtain ⟨wB, rfl⟩ : ∃ wB, wB = wc := ⟨_, rfl⟩
          have hM6 := RS.agree hM5 (xA.agree _) (fun _ _ _ hm => msgRep.ext hm xA)
          have XA := Lib.hid xA
          clear hM5 j0 j1 b5 xA
          go_upto_region 12 with fail
          go_cut [121] (fun c wx => c = .bool false ∧ Ext wB wx)
          case first =>
            clear HS HBA HBC HRA HW HST
            rcases HSE.out with ⟨_, hms⟩ | ⟨m2, m3, m4, m5, m6, m7, m8, hms, hck, _⟩
            · subst hms
              obtain rfl : nm = 0 := HNM.out.symm
              clear hM6
              go_quiet (fail)
              go_wp2_with fail
              go_meet
              exact ⟨rfl, (Ext.refl wB).drewN _⟩
            · subst hms
              obtain rfl : nm = 1 := HNM.out.symm
              have HCK := Lib.hid (fun w1 v (h : RF Any 6 valE w1 v (valsOf kk)) => checkM_any ⟨7, m2, m3, m4, m5, m6, m7, m8, 9, valsOf kk⟩ v w1 h)
              rw [hck] at HCK
              have HSV := Lib.hid (fun va vb w1 h h' => sameVals_any (valsOf kk) (valsOf kk) va vb w1 h h')
              simp only [decide_true] at HSV
              clear hck
              generalize hLK : valsOf kk = K at *
              clear hLK
              obtain ⟨mb, mo, mc, ma, mc', hvm, _, g0, g1, g2, g3, g4, g5, g6, g7, g8, g9, hrm⟩ := msg_get hM6
              simp only [Value.slice.injEq, List.length_cons, List.length_nil, Nat.zero_add] at hvm
              obtain ⟨rfl, -, rfl⟩ := hvm
              simp only [HLK.out] at g0 g1 g2 g3 g4 g5 g6 g7 g8 g9 hrm

              have HGC := Lib.hid (fun w' (he : Ext wB w') => And.intro (he.cell g0) (And.intro (he.cell g1) (And.intro (he.cell g2) (And.intro (he.cell g3) (And.intro (he.cell g4) (And.intro (he.cell g5) (And.intro (he.cell g6) (And.intro (he.cell g7) (And.intro (he.cell g8) (he.cell g9))))))))))
              have HRM := Lib.hid (fun w' (he : Ext wB w') => hrm.ext he)
              clear hrm hM6
              go_region_held3 (fun w' => w'.cell? ⟨mb, mo, none⟩ = some (.int .i64 7) ∧ w'.cell? ⟨mb, mo + 1, none⟩ = some (.int .i64 m2) ∧ w'.cell? ⟨mb, mo + 2, none⟩ = some (.int .i64 m3) ∧ w'.cell? ⟨mb, mo + 3, none⟩ = some (.int .i64 m4) ∧ w'.cell? ⟨mb, mo + 4, none⟩ = some (.int .i64 m5) ∧ w'.cell? ⟨mb, mo + 5, none⟩ = some (.int .i64 m6) ∧ w'.cell? ⟨mb, mo + 6, none⟩ = some (.int .i64 m7) ∧ w'.cell? ⟨mb, mo + 7, none⟩ = some (.bool m8) ∧ w'.cell? ⟨mb, mo + 8, none⟩ = some (.int .i64 9) ∧ w'.cell? ⟨mb, mo + 9, none⟩ = some (.slice ma nK mc'))
                (first | (with_reducible exact ⟨g0, g1, g2, g3, g4, g5, g6, g7, g8, g9⟩) | (exact HGC.out _ (by first | (with_reducible exact (Ext.refl wB).drew) | (with_reducible exact D1) | (with_reducible exact D2) | (with_reducible exact D3))) | fail)
                (first
                  | (go_at_call 20; (with_reducible refine (HCK.out _ _ (HRM.out _ (Ext.refl wB).drew)).mono ?_); rintro e z1 ⟨rfl, y1⟩; have D1 : Ext wB z1 := (Ext.refl wB).drew.trans y1; clear y1)
                  | (go_at_call 18; (with_reducible refine (HV.out _).mono ?_); rintro e z2 ⟨a9, c9, he, y2, r9⟩; rw [HLK.out] at he r9; subst he; have D2 : Ext wB z2 := D1.trans y2; have HR92 := Lib.hid (r9.weak (by omega) (V' := Any) (fun _ _ h => h.elim)); clear r9 y2)
                  | (go_at_call 21; (with_reducible refine (HSV.out _ _ _ (HRM.out _ D2) HR92.out).mono ?_); rintro e w9 ⟨rfl, y3⟩; have D3 : Ext wB w9 := D2.trans y3; clear y3)
                  | fail)
              go_wp2_with fail
              go_meet
              exact ⟨rfl, D3⟩
          case rest =>
            obtain ⟨rfl, xB⟩ := hcut
            have xAB := XA.out.trans xB
            have hT7 := HT0.out.ext xAB
            have hB7 := HSb0.out.ext xAB
            have HR9 := Lib.hid (HR50.out.ext xAB)
            have HX9 := Lib.hid (HX5.out.trans xAB)
            clear hM6 xB xAB
            have HT := Lib.hid hT7
            clear HBC HBA HS HRA HV
            have q0 := hB7.cell
            have f0 := hB7.frozen
            have q1 := hT7.cell
            have HB7 := Lib.hid hB7
            clear hB7 hT7
            go_upto_region 7 with fail
            change Code.wp _ _ _ _ (put wc B 0 [.int .i64 st1, .int .i64 st2, .int .i64 st3, .int .i64 st4, .bool st5, .int .i64 st6, .int .i64 st7, .int .i64 st8, .int .i64 st9, .int .i64 st10, .int .i64 st11, .int .i64 st12, .slice a5 nL c5])
            have C6 := Lib.hid (put_all (vs := [.int .i64 st1, .int .i64 st2, .int .i64 st3, .int .i64 st4, .bool st5, .int .i64 st6, .int .i64 st7, .int .i64 st8, .int .i64 st9, .int .i64 st10, .int .i64 st11, .int .i64 st12, .slice a5 nL c5]) HB7.out rfl)
            have HX6 := Lib.hid (put_ext (a := w) HB.out [.int .i64 st1, .int .i64 st2, .int .i64 st3, .int .i64 st4, .bool st5, .int .i64 st6, .int .i64 st7, .int .i64 st8, .int .i64 st9, .int .i64 st10, .int .i64 st11, .int .i64 st12, .slice a5 nL c5] 0 _ HX9.out)
            have HR6 := Lib.hid (HR9.out.agree (agree_put (V := (· = B)) rfl [.int .i64 st1, .int .i64 st2, .int .i64 st3, .int .i64 st4, .bool st5, .int .i64 st6, .int .i64 st7, .int .i64 st8, .int .i64 st9, .int .i64 st10, .int .i64 st11, .int .i64 st12, .slice a5 nL c5] 0 wc))
            clear q0 f0 q1
            generalize put wc B 0 [.int .i64 st1, .int .i64 st2, .int .i64 st3, .int .i64 st4, .bool st5, .int .i64 st6, .int .i64 st7, .int .i64 st8, .int .i64 st9, .int .i64 st10, .int .i64 st11, .int .i64 st12, .slice a5 nL c5] = w10 at *
            go_wp2_with fail
            go_roundw
            case rel => exact ⟨k + 1, ⟨st1, st2, st3, st4, st5, st6, st7, st8, st9, st10, st11, st12, L⟩, kk, a5, c5, by omega, by go_num, rfl, HG1.out, by simp only [HL1.out]; exact C6.out, by simp only [HL1.out]; exact HR6.out, HX6.out⟩
            case measure => simp [intOf] <;> omega

    · have hend : ¬ ((k : Int) < ln) ∨ (((k : Int) < ln) ∧ ¬ ((k : Int) < 200)) := by omega
      clear hlt
      rcases hend with hd | ⟨hd, hd'⟩
      all_goals
        go_wp2_with fail
        go_ret
        exact ⟨rfl, hx⟩
end Go.Proofs.Ytopmhaebjpmbfaa
