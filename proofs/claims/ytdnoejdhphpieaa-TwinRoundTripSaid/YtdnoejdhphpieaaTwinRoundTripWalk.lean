/- The walk of the statement TwinRoundTrip. -/
import Derived.Test.YtdnoejdhphpieaaTwH
import Derived.Test.YtdnoejdhphpieaaTwinOpensWalk
import Derived.Test.YtdnoejdhphpieaaTwD
namespace Go.Proofs.Ytdnoejdhphpieaa
open Go.RowKit
attribute [local go_sem ↓] Go.wp_at_zero Go.wp_at_succ

/-- What Open makes of a copy that Send made. -/
theorem opn_frame {p : List Int} {src seq net : Int} (h : (word src && word seq) = true) (hn : p.length ≤ 1500) (hnet : net = 0 ∨ net = 1) : opn (frame p src seq net) = ((src, seq, net, p), 0) := by
  unfold word at h
  simp only [Bool.and_eq_true, decide_eq_true_eq] at h
  unfold frame
  rw [opn_app]
  unfold opnT
  have h1 : isNet (160 + net) = true := by rcases hnet with rfl | rfl <;> decide
  rw [if_neg (by rw [h1]; simp), if_neg (by omega)]
  have h2 : netOf (160 + net) = net := by rcases hnet with rfl | rfl <;> decide
  rw [h2]
  congr 2
  · omega
  · congr 1
    omega
theorem frame_ne (p : List Int) (src seq : Int) : frame p src seq 0 ≠ frame p src seq 1 := by
  unfold frame
  intro h
  have := List.append_cancel_left h
  simp at this
set_option maxRecDepth 100000 in
set_option maxHeartbeats 8000000 in
theorem trt_walk (p : List Int) (v : Value) (src seq : Int) (w : World) (h : RB Any w v p) : Calls Try.prog 9 #[v, .int .i64 src, .int .i64 seq] w fun e w' => e = .returned (.bool true) ∧ Ext w w' := by
  have hk := Lib.hid (known16_any w)
  have SP := Lib.hid (fun w1 (he : Ext w w1) => sendP_any p v src seq w1 (h.ext he))
  unfold sendS at SP
  cases hg : word src && word seq
  · rw [if_pos hg] at SP
    obtain ⟨va, vc, rfl, _, _⟩ := h.form
    generalize p.length = n at *
    clear h hg
    go_enter Try.func9, Try.ntmps9
    go_wp2_with fail
    refine hk.out.mono ?_
    rintro e w1 ⟨rfl, x1⟩
    go_wp2_with fail
    refine (SP.out _ x1).mono ?_
    rintro e w2 ⟨a0, c0, a1, c1, rfl, x2, r0, r1⟩
    have X2 := x1.trans x2
    simp only [List.length_nil] at r0 r1 ⊢
    clear r0 r1
    go_wp2_with fail
    go_ret
    exact ⟨rfl, X2.alloc _⟩
  · rw [if_neg (by rw [hg]; simp)] at SP
    by_cases hn : 1500 < p.length
    · rw [if_pos hn] at SP
      obtain ⟨va, vc, rfl, _, _⟩ := h.form
      generalize p.length = n at *
      clear h hg hn
      go_enter Try.func9, Try.ntmps9
      go_wp2_with fail
      refine hk.out.mono ?_
      rintro e w1 ⟨rfl, x1⟩
      go_wp2_with fail
      refine (SP.out _ x1).mono ?_
      rintro e w2 ⟨a0, c0, a1, c1, rfl, x2, r0, r1⟩
      have X2 := x1.trans x2
      simp only [List.length_nil] at r0 r1 ⊢
      clear r0 r1
      go_wp2_with fail
      go_ret
      exact ⟨rfl, X2.alloc _⟩
    · rw [if_neg hn] at SP
      have O0 := opn_frame (p := p) (src := src) (seq := seq) (net := 0) hg (by omega) (.inl rfl)
      have O1 := opn_frame (p := p) (src := src) (seq := seq) (net := 1) hg (by omega) (.inr rfl)
      have OP0 := Lib.hid (fun v w1 hh => openP_any (frame p src seq 0) v w1 hh)
      have OP1 := Lib.hid (fun v w1 hh => openP_any (frame p src seq 1) v w1 hh)
      rw [O0] at OP0
      rw [O1] at OP1
      clear O0 O1
      have hne := frame_ne p src seq
      have hb0 : Byt (frame p src seq 0) ∧ Byt (frame p src seq 1) := by
        have := h.byt
        unfold word at hg
        simp only [Bool.and_eq_true, decide_eq_true_eq] at hg
        exact ⟨this.append (fun x hx => by simp only [List.mem_cons, List.not_mem_nil, or_false] at hx; omega), this.append (fun x hx => by simp only [List.mem_cons, List.not_mem_nil, or_false] at hx; omega)⟩
      have HL := Lib.hid (And.intro (frame_len p src seq 0) (frame_len p src seq 1))
      have hsq : (seq + 1).tmod 65536 = (seq + 1) % 65536 := by
        unfold word at hg
        simp only [Bool.and_eq_true, decide_eq_true_eq] at hg
        exact Int.tmod_eq_emod_of_nonneg (by omega)
      have hsw : IntKind.i64.wrap (seq + 1) = seq + 1 := by
        unfold word at hg
        simp only [Bool.and_eq_true, decide_eq_true_eq] at hg
        exact IntWalk.i64_in _ (by omega)
      have hstr : ((strOfNums (frame p src seq 0)).toList == (strOfNums (frame p src seq 1)).toList) = false := by rw [str_eq hb0.1 hb0.2]; simpa using hne
      have HSRC := Lib.hid (fun w1 (he : Ext w w1) => h.ext he)
      obtain ⟨va, vc, rfl, _, _⟩ := h.form
      generalize frame p src seq 0 = f0 at *
      generalize frame p src seq 1 = f1 at *
      generalize (seq + 1) % 65536 = nx at *
      clear h hg hb0 hne
      generalize hpn : p.length = n at *
      go_enter Try.func9, Try.ntmps9
      go_wp2_with fail
      refine hk.out.mono ?_
      rintro e w1 ⟨rfl, x1⟩
      go_wp2_with fail
      refine (SP.out _ x1).mono ?_
      rintro e w2 ⟨a0, c0, a1, c1, rfl, x2, r0, r1⟩
      simp only [HL.out.1, HL.out.2] at r0 r1 ⊢
      have X2 := Lib.hid (x1.trans x2)
      have HR0 := Lib.hid r0
      have HR1 := Lib.hid r1
      clear r0 r1 SP
      go_wp2_with fail
      have C3 := Lib.hid (Bk.new w2 #[.slice a0 (n + 8) c0, .slice a1 (n + 8) c1] 52 w2.heap.size rfl)
      have X3 := Lib.hid (X2.out.alloc (.cells #[.slice a0 (n + 8) c0, .slice a1 (n + 8) c1] 52))
      have P0 := Lib.hid (HR0.out.any.ext ((Ext.refl w2).alloc (.cells #[.slice a0 (n + 8) c0, .slice a1 (n + 8) c1] 52)))
      have P1 := Lib.hid (HR1.out.any.ext ((Ext.refl w2).alloc (.cells #[.slice a0 (n + 8) c0, .slice a1 (n + 8) c1] 52)))
      generalize w2.alloc (.cells #[.slice a0 (n + 8) c0, .slice a1 (n + 8) c1] 52) = W at *
      generalize w2.heap.size = bc at *
      clear HR0 HR1 X2 x1 x2
      go_loopw [10] (fun i wr => ∃ k : Nat, k ≤ 2 ∧ i = .int .i64 k ∧ Ext W wr) (fun i _ => 2 - (intOf i).toNat)
      case atStart => exact ⟨0, by omega, rfl, Ext.refl _⟩
      case round =>
        obtain ⟨k, hk2, rfl, hx⟩ := hrel
        have HX := Lib.hid hx
        have B := Lib.hid (C3.out.ext hx)
        have q0 := B.out.cell
        clear hx
        obtain rfl | rfl | rfl : k = 0 ∨ k = 1 ∨ k = 2 := by omega
        · go_wp2_with fail
          refine (OP0.out _ _ (P0.out.ext HX.out)).mono ?_
          rintro e w3 ⟨a3, c3, rfl, x3, r3⟩
          simp only [hpn] at r3 ⊢
          have X4 := Lib.hid ((HX.out.trans x3).alloc (.cells #[.int .i64 src, .int .i64 seq, .int .i64 0, .slice a3 n c3] 58))
          have v2 := (r3.ext ((Ext.refl w3).alloc (.cells #[.int .i64 src, .int .i64 seq, .int .i64 0, .slice a3 n c3] 58))).conv (P := Try.prog) 51 9 5 Try.underlying51 Try.underlying5 (by kernel_rfl)
          have v3 := (HSRC.out _ (X3.out.trans X4.out)).conv (P := Try.prog) 51 9 5 Try.underlying51 Try.underlying5 (by kernel_rfl)
          generalize strOfNums p = sp at *
          clear r3 q0
          go_wp2_with fail
          go_roundw
          case rel => exact ⟨1, by omega, rfl, X4.out⟩
          case measure => simp [intOf]
        · go_wp2_with fail
          refine (OP1.out _ _ (P1.out.ext HX.out)).mono ?_
          rintro e w3 ⟨a3, c3, rfl, x3, r3⟩
          simp only [hpn] at r3 ⊢
          have X4 := Lib.hid ((HX.out.trans x3).alloc (.cells #[.int .i64 src, .int .i64 seq, .int .i64 1, .slice a3 n c3] 58))
          have v2 := (r3.ext ((Ext.refl w3).alloc (.cells #[.int .i64 src, .int .i64 seq, .int .i64 1, .slice a3 n c3] 58))).conv (P := Try.prog) 51 9 5 Try.underlying51 Try.underlying5 (by kernel_rfl)
          have v3 := (HSRC.out _ (X3.out.trans X4.out)).conv (P := Try.prog) 51 9 5 Try.underlying51 Try.underlying5 (by kernel_rfl)
          generalize strOfNums p = sp at *
          clear r3 q0
          go_wp2_with fail
          go_roundw
          case rel => exact ⟨2, by omega, rfl, X4.out⟩
          case measure => simp [intOf]
        · have v0 := (P0.out.ext HX.out).conv (P := Try.prog) 51 9 5 Try.underlying51 Try.underlying5 (by kernel_rfl)
          have v1 := (P1.out.ext HX.out).conv (P := Try.prog) 51 9 5 Try.underlying51 Try.underlying5 (by kernel_rfl)
          have hstr2 : ((strOfNums f0).toList != (strOfNums f1).toList) = true := by rw [bne, hstr]; rfl
          generalize strOfNums f0 = s0 at *
          generalize strOfNums f1 = s1 at *
          go_wp2_with fail
          go_ret
          exact ⟨rfl, X3.out.trans HX.out⟩
end Go.Proofs.Ytdnoejdhphpieaa
