/- Send of the reference: layer 16. -/
import Derived.Test.YtdnoejdhphpieaaBigR
namespace Go.Proofs.Ytdnoejdhphpieaa
open Go.RowKit
attribute [local go_sem ↓] Go.wp_at_zero Go.wp_at_succ

theorem wordT_any (n : Int) (w : World) : Calls Try.prog 27 #[.int .i64 n] w fun e w' => e = .returned (.bool (word n)) ∧ w = w' := by
  by_cases h : 0 ≤ n
  · obtain ⟨b, hb⟩ : ∃ b, decide (n ≤ 65535) = b := ⟨_, rfl⟩
    have HB := Lib.hid (show word n = b by unfold word; rw [hb]; simp [h])
    go_enter Try.func27, Try.ntmps27
    go_wp2
    go_ret
    exact ⟨ret_bool (by rw [HB.out]), rfl⟩
  · have HB := Lib.hid (show word n = false by unfold word; simp [h])
    go_enter Try.func27, Try.ntmps27
    go_wp2
    go_ret
    exact ⟨ret_bool (by rw [HB.out]), rfl⟩
set_option maxRecDepth 100000 in
set_option maxHeartbeats 4000000 in
theorem sendR_bad (a : Option Addr) (n c : Nat) (src seq : Int) (w : World) (h : (word src && word seq) = false) : Calls Try.prog 18 #[.slice a n c, .int .i64 src, .int .i64 seq] w (RetSend w (([], []), 0, 2)) := by
  have HE := Lib.hid (fun w' (h : Ext w w') => RetSend.err 2 h)
  have W1 := Lib.hid (fun w1 => wordT_any src w1)
  have W2 := Lib.hid (fun w1 => wordT_any seq w1)
  have X0 := Lib.hid (((Ext.refl w).alloc (.cells #[.slice none 0 0, .slice none 0 0] 52)).alloc (.cells #[.slice none 0 0, .slice none 0 0] 52))
  have R0 := Lib.hid ((Bk.new w #[.slice none 0 0, .slice none 0 0] 52 w.heap.size rfl).alloc (.cells #[.slice none 0 0, .slice none 0 0] 52))
  have C0 := Lib.hid (Bk.new (w.alloc (.cells #[.slice none 0 0, .slice none 0 0] 52)) #[.slice none 0 0, .slice none 0 0] 52 (w.heap.size + 1) (by simp))
  generalize word src = bs at *
  generalize word seq = bq at *
  cases bs
  · go_enter Try.func18, Try.ntmps18
    go_wp2_with fail
    generalize (w.alloc (.cells #[.slice none 0 0, .slice none 0 0] 52)).alloc (.cells #[.slice none 0 0, .slice none 0 0] 52) = W at *
    have q0 := R0.out.cell
    have f0 := R0.out.frozen
    have q1 := C0.out.cell
    refine (W1.out _).mono ?_
    rintro e w1 ⟨rfl, rfl⟩
    go_wp2_with fail
    refine bodyPost_ret (v := .tuple #[.agg #[.slice none 0 0, .slice none 0 0], .int .i64 0, .int .i64 2]) (by simp [results, Try.results18, go_sem, q0]) rfl (HE.out _ ?_)
    repeat (first | exact X0.out | refine Ext.setCell ?_ (by simp) _)
  · rw [Bool.true_and] at h
    subst h
    go_enter Try.func18, Try.ntmps18
    go_wp2_with fail
    generalize (w.alloc (.cells #[.slice none 0 0, .slice none 0 0] 52)).alloc (.cells #[.slice none 0 0, .slice none 0 0] 52) = W at *
    have q0 := R0.out.cell
    have f0 := R0.out.frozen
    have q1 := C0.out.cell
    refine (W1.out _).mono ?_
    rintro e w1 ⟨rfl, rfl⟩
    go_wp2_with fail
    refine (W2.out _).mono ?_
    rintro e w1 ⟨rfl, rfl⟩
    go_wp2_with fail
    refine bodyPost_ret (v := .tuple #[.agg #[.slice none 0 0, .slice none 0 0], .int .i64 0, .int .i64 2]) (by simp [results, Try.results18, go_sem, q0]) rfl (HE.out _ ?_)
    repeat (first | exact X0.out | refine Ext.setCell ?_ (by simp) _)
set_option maxRecDepth 100000 in
set_option maxHeartbeats 4000000 in
theorem sendR_long (a : Option Addr) (n c : Nat) (src seq : Int) (w : World) (h : (word src && word seq) = true) (hn : 1500 < n) : Calls Try.prog 18 #[.slice a n c, .int .i64 src, .int .i64 seq] w (RetSend w (([], []), 0, 4)) := by
  have HE := Lib.hid (fun w' (h : Ext w w') => RetSend.err 4 h)
  have W1 := Lib.hid (fun w1 => wordT_any src w1)
  have W2 := Lib.hid (fun w1 => wordT_any seq w1)
  have X0 := Lib.hid (((Ext.refl w).alloc (.cells #[.slice none 0 0, .slice none 0 0] 52)).alloc (.cells #[.slice none 0 0, .slice none 0 0] 52))
  have R0 := Lib.hid ((Bk.new w #[.slice none 0 0, .slice none 0 0] 52 w.heap.size rfl).alloc (.cells #[.slice none 0 0, .slice none 0 0] 52))
  have C0 := Lib.hid (Bk.new (w.alloc (.cells #[.slice none 0 0, .slice none 0 0] 52)) #[.slice none 0 0, .slice none 0 0] 52 (w.heap.size + 1) (by simp))
  rw [Bool.and_eq_true] at h
  rw [h.1] at W1
  rw [h.2] at W2
  have hn2 : (1500 : Int) < n := by omega
  clear h
  go_enter Try.func18, Try.ntmps18
  go_wp2_with fail
  generalize (w.alloc (.cells #[.slice none 0 0, .slice none 0 0] 52)).alloc (.cells #[.slice none 0 0, .slice none 0 0] 52) = W at *
  have q0 := R0.out.cell
  have f0 := R0.out.frozen
  have q1 := C0.out.cell
  refine (W1.out _).mono ?_
  rintro e w1 ⟨rfl, rfl⟩
  go_wp2_with fail
  refine (W2.out _).mono ?_
  rintro e w1 ⟨rfl, rfl⟩
  go_wp2_with fail
  refine bodyPost_ret (v := .tuple #[.agg #[.slice none 0 0, .slice none 0 0], .int .i64 0, .int .i64 4]) (by simp [results, Try.results18, go_sem, q0]) rfl (HE.out _ ?_)
  repeat (first | exact X0.out | refine Ext.setCell ?_ (by simp) _)
set_option maxRecDepth 100000 in
set_option maxHeartbeats 8000000 in
theorem sendR_good {V : Nat → Prop} (p : List Int) (v : Value) (src seq : Int) (w : World) (hp : RB V w v p) (h : (word src && word seq) = true) (hn : p.length ≤ 1500) : Calls Try.prog 18 #[v, .int .i64 src, .int .i64 seq] w (RetSend w ((frame p src seq 0, frame p src seq 1), (seq + 1) % 65536, 0)) := by
  obtain ⟨i0, hi0, hz0, hz1, hz2⟩ := info_parts info_byteT
  have HPB := hp.byt
  obtain ⟨a, c, rfl, hc1, hc2⟩ := hp.form
  have HSRC := Lib.hid (fun w1 (he : Ext w w1) => Src.bytes (hp.ext he))
  have W1 := Lib.hid (fun w1 => wordT_any src w1)
  have W2 := Lib.hid (fun w1 => wordT_any seq w1)
  rw [Bool.and_eq_true] at h
  rw [h.1] at W1
  rw [h.2] at W2
  unfold word at h
  simp only [Bool.and_eq_true, decide_eq_true_eq] at h
  have hsq : (seq + 1).tmod 65536 = (seq + 1) % 65536 := Int.tmod_eq_emod_of_nonneg (by omega)
  have hsw : IntKind.i64.wrap (seq + 1) = seq + 1 := IntWalk.i64_in _ (by omega)
  have HF : Hid (∀ w' a0 c0 a1 c1, Ext w w' → RB (Old w) w' (.slice a0 (p.length + 8) c0) (frame p src seq 0) → RB (Old w) w' (.slice a1 (p.length + 8) c1) (frame p src seq 1) → RetSend w ((frame p src seq 0, frame p src seq 1), (seq + 1) % 65536, 0) (.returned (.tuple #[.agg #[.slice a0 (p.length + 8) c0, .slice a1 (p.length + 8) c1], .int .i64 ((seq + 1) % 65536), .int .i64 0])) w') := fun w' a0 c0 a1 c1 he r0 r1 => ⟨a0, c0, a1, c1, by simp only [frame_len], he, by rw [frame_len]; exact r0, by rw [frame_len]; exact r1⟩
  have HFR : Hid (∀ net, frame p src seq net = p ++ [src / 256 % 256, src % 256, seq / 256 % 256, seq % 256, 160 + net, 0, (p.length : Int) / 256 % 256, (p.length : Int) % 256]) := fun net => rfl
  have HFL : Hid (∀ net, (frame p src seq net).length = p.length + 8) := fun net => frame_len p src seq net
  have HFB : Hid (∀ net, 0 ≤ net → net ≤ 1 → Byt (frame p src seq net)) := fun net k0 k1 => HPB.append (fun x hx => by simp only [List.mem_cons, List.not_mem_nil, or_false] at hx; omega)
  generalize RetSend w ((frame p src seq 0, frame p src seq 1), (seq + 1) % 65536, 0) = R at *
  generalize frame p src seq = fr at *
  clear hp h
  generalize hnn : p.length = n at *
  have HNN := Lib.hid hnn
  have hn2 : ¬ (1500 : Int) < n := by omega
  have HN15 := Lib.hid hn
  have HSEQ := Lib.hid hsq
  have HB1 := Lib.hid (fun w1 => big2_any src w1)
  have HB2 := Lib.hid (fun w1 => big2_any seq w1)
  have HB3 := Lib.hid (fun w1 => big2_any (n : Int) w1)
  generalize (seq + 1) % 65536 = nx at *
  clear hnn hn HPB hsq
  have X0 := Lib.hid (((Ext.refl w).alloc (.cells #[.slice none 0 0, .slice none 0 0] 52)).alloc (.cells #[.slice none 0 0, .slice none 0 0] 52))
  have R0 := Lib.hid ((Bk.new w #[.slice none 0 0, .slice none 0 0] 52 w.heap.size rfl).alloc (.cells #[.slice none 0 0, .slice none 0 0] 52))
  have C0 := Lib.hid (Bk.new (w.alloc (.cells #[.slice none 0 0, .slice none 0 0] 52)) #[.slice none 0 0, .slice none 0 0] 52 (w.heap.size + 1) (by simp))
  go_enter Try.func18, Try.ntmps18
  go_wp2_with fail
  generalize (w.alloc (.cells #[.slice none 0 0, .slice none 0 0] 52)).alloc (.cells #[.slice none 0 0, .slice none 0 0] 52) = W at *
  refine (W1.out _).mono ?_
  rintro e w1 ⟨rfl, rfl⟩
  go_wp2_with fail
  refine (W2.out _).mono ?_
  rintro e w1 ⟨rfl, rfl⟩
  go_wp2_with fail
  clear W1 W2
  have lW : w.heap.size + 1 < W.heap.size := C0.out.lt
  have HR0 := Lib.hid (show W.heap.size ≤ W.heap.size from Nat.le_refl _)
  obtain ⟨r, hr⟩ : ∃ r, W.heap.size = r := ⟨_, rfl⟩
  rw [hr] at lW
  have XW := Lib.hid (show r ≤ W.heap.size by omega)
  clear hr HR0
  go_loopw [10, 11] (fun i _ wr => ∃ (k : Nat) (a0 : Option Addr) (l0 k0 : Nat) (a1 : Option Addr) (l1 k1 : Nat), k ≤ 2 ∧ i = .int .i64 k ∧ r ≤ wr.heap.size ∧ Bk wr (w.heap.size + 1) 52 #[.slice a0 l0 k0, .slice a1 l1 k1] ∧ RB (fun g => g < r) wr (.slice a0 l0 k0) (part (decide (0 < k)) (fr 0)) ∧ RB (fun g => g < r) wr (.slice a1 l1 k1) (part (decide (1 < k)) (fr 1)) ∧ Bk wr w.heap.size 52 #[.slice none 0 0, .slice none 0 0] ∧ Ext w wr) (fun i _ _ => 2 - (intOf i).toNat)
  case atStart => exact ⟨0, none, 0, 0, none, 0, 0, by omega, rfl, XW.out, C0.out, RB.nil _ _, RB.nil _ _, R0.out, X0.out⟩
  case round =>
    obtain ⟨k, a0, l0, k0, a1, l1, k1, hk, rfl, hrw, hC, hp0, hp1, hR, hx⟩ := hrel
    clear R0 C0 X0 XW
    have HRW := Lib.hid hrw
    have HC := Lib.hid hC
    have HR := Lib.hid hR
    have HX := Lib.hid hx
    clear hC hR hx hrw
    obtain rfl | rfl | rfl : k = 0 ∨ k = 1 ∨ k = 2 := by omega
    · have HFN := Lib.hid (show fr 0 = p ++ [src / 256 % 256, src % 256, seq / 256 % 256, seq % 256, 160, 0, (n : Int) / 256 % 256, (n : Int) % 256] from HFR.out 0)
      have HL0 := Lib.hid (World.ownsRow_lit (base := wr.heap.size) (e := 5) (size := 1) wr #[] 0 (Nat.le_refl _) (by unfold maxLen; omega) rfl)
      have HS2 := Lib.hid (HSRC.out _ (HX.out.alloc (.cells #[] 5)))
      have HP0 := Lib.hid hp0
      have HP1 := Lib.hid hp1
      clear hp0 hp1
      go_wp2_with (first
        | (at_builtin; refine wpList_append_src _ rfl (.tmp 29) (.tmp 30) _ rfl wr.heap.size 5 i0 _ 1 1 Try.underlying51 hi0 hz0 hz1 hz2 rfl (by omega) _ (0) ([]) rfl (HL0.out) _ n _ (p.map (Value.int .u8)) rfl (HS2.out) (by unfold maxLen; have := HN15.out; omega) (by have := HN15.out; omega) (((Ext.refl wr).alloc (.cells #[] 5)).size) ?_
           intro A2 k2 w2 hown2 hg2 hat2; simp only [Nat.zero_add, List.nil_append] at hown2
           have E2 : Ext wr w2 := ((Ext.refl wr).alloc (.cells #[] 5)).grown hg2 (fun g hg => (HL0.out.lt g hg).1)
           have O2 := Lib.hid hown2
           clear hown2 hg2 hat2)
        | (go_at_call 33; (with_reducible refine (HB1.out _).mono ?_); rintro e b1 ⟨ba1, bc1, rfl, y1, s1⟩; have F1 : Ext wr b1 := E2.trans y1; have S1 := Lib.hid s1; clear s1)
        | (at_builtin; refine wpList_append_src _ rfl (.tmp 32) (.tmp 34) _ rfl wr.heap.size 5 i0 _ 1 1 Try.underlying51 hi0 hz0 hz1 hz2 rfl (by omega) _ (n) (p.map (Value.int .u8)) rfl (own_ext O2.out y1) _ 2 _ ([.int .u8 (src / 256 % 256), .int .u8 (src % 256)]) rfl (S1.out) (by unfold maxLen; have := HN15.out; omega) (by have := HN15.out; omega) (F1.size) ?_
           intro A3 k3 w3 hown3 hg3 hat3
           have E3 : Ext wr w3 := F1.grown hg3 (fun g hg => (O2.out.lt g hg).1)
           have O3 := Lib.hid hown3
           clear hown3 hg3 hat3)
        | (go_at_call 33; (with_reducible refine (HB2.out _).mono ?_); rintro e b2 ⟨ba2, bc2, rfl, y2, s2⟩; have F2 : Ext wr b2 := E3.trans y2; have S2 := Lib.hid s2; clear s2)
        | (at_builtin; refine wpList_append_src _ rfl (.tmp 36) (.tmp 38) _ rfl wr.heap.size 5 i0 _ 1 1 Try.underlying51 hi0 hz0 hz1 hz2 rfl (by omega) _ (n + 2) (p.map (Value.int .u8) ++ [.int .u8 (src / 256 % 256), .int .u8 (src % 256)]) rfl (own_ext O3.out y2) _ 2 _ ([.int .u8 (seq / 256 % 256), .int .u8 (seq % 256)]) rfl (S2.out) (by unfold maxLen; have := HN15.out; omega) (by have := HN15.out; omega) (F2.size) ?_
           intro A4 k4 w4 hown4 hg4 hat4
           have E4 : Ext wr w4 := F2.grown hg4 (fun g hg => (O3.out.lt g hg).1)
           have O4 := Lib.hid hown4
           clear hown4 hg4 hat4)
        | (at_builtin; refine wpList_append_src _ rfl (.tmp 40) (.tmp 44) _ rfl wr.heap.size 5 i0 _ 1 1 Try.underlying51 hi0 hz0 hz1 hz2 rfl (by omega) _ (n + 2 + 2) (p.map (Value.int .u8) ++ [.int .u8 (src / 256 % 256), .int .u8 (src % 256)] ++ [.int .u8 (seq / 256 % 256), .int .u8 (seq % 256)]) rfl (O4.out.alloc _) _ 2 _ ([.int .u8 160, .int .u8 0]) rfl (Src.litM w4 #[.int .u8 160, .int .u8 0] 5 2 _ (by simp) rfl (by simp [Value.oneCell'])) (by unfold maxLen; have := HN15.out; omega) (by have := HN15.out; omega) ((E4.alloc (.cells #[.int .u8 160, .int .u8 0] 5)).size) ?_
           intro A5 k5 w5 hown5 hg5 hat5
           have E5 : Ext wr w5 := (E4.alloc (.cells #[.int .u8 160, .int .u8 0] 5)).grown hg5 (fun g hg => (O4.out.lt g hg).1)
           have O5 := Lib.hid hown5
           clear hown5 hg5 hat5)
        | (go_at_call 33; (with_reducible refine (HB3.out _).mono ?_); rintro e b3 ⟨ba3, bc3, rfl, y3, s3⟩; have F3 : Ext wr b3 := E5.trans y3; have S3 := Lib.hid s3; clear s3)
        | (at_builtin; refine wpList_append_src _ rfl (.tmp 47) (.tmp 50) _ rfl wr.heap.size 5 i0 _ 1 1 Try.underlying51 hi0 hz0 hz1 hz2 rfl (by omega) _ (n + 2 + 2 + 2) (p.map (Value.int .u8) ++ [.int .u8 (src / 256 % 256), .int .u8 (src % 256)] ++ [.int .u8 (seq / 256 % 256), .int .u8 (seq % 256)] ++ [.int .u8 160, .int .u8 0]) rfl (own_ext O5.out y3) _ 2 _ ([.int .u8 ((n : Int) / 256 % 256), .int .u8 ((n : Int) % 256)]) rfl (S3.out) (by unfold maxLen; have := HN15.out; omega) (by have := HN15.out; omega) (F3.size) ?_
           intro A6 k6 w6 hown6 hg6 hat6
           have E6 : Ext wr w6 := F3.grown hg6 (fun g hg => (O5.out.lt g hg).1)
           have O6 := Lib.hid hown6
           have Q6 := Lib.hid (show RB (fun g => g < r) w6 (.slice A6 (n + 8) k6) (fr 0) by
             refine RB.of_own (base := wr.heap.size) (e := 5) (by rw [HFL.out, HFN.out]; simpa using hown6) (HFB.out 0 (by omega) (by omega)) (fun g hg => Nat.lt_of_lt_of_le hg HRW.out))
           have C6 := Lib.hid (HC.out.ext E6)
           have q6 := C6.out.cell
           have f6 := C6.out.frozen
           clear hown6 hg6 hat6)
        | go_in)
      have C7 := C6.out.setCell 0 (.slice A6 (n + 8) k6)
      have A7 := agree_setCell (V := fun g => g < r) (w := w6) (p := ⟨w.heap.size + 1, 0, none⟩) lW (.slice A6 (n + 8) k6)
      have Q7 := Q6.out.agree A7
      have P7 := (HP1.out.ext E6).agree A7
      have R7 := (HR.out.ext E6).setOther (show w.heap.size + 1 ≠ w.heap.size by omega) 0 (.slice A6 (n + 8) k6)
      have X7 := (HX.out.trans E6).setCell (p := ⟨w.heap.size + 1, 0, none⟩) (show w.heap.size ≤ w.heap.size + 1 by omega) (.slice A6 (n + 8) k6)
      have Z7 : r ≤ (w6.setCell ⟨w.heap.size + 1, 0, none⟩ (.slice A6 (n + 8) k6)).heap.size := by have := HRW.out; have := E6.size; simp; omega
      have HR7 := Lib.hid (And.intro C7 (And.intro Q7 (And.intro P7 (And.intro R7 (And.intro X7 Z7)))))
      clear C7 A7 Q7 P7 R7 X7 Z7 q6 f6
      go_roundw
      case rel =>
        obtain ⟨C7, Q7, P7, R7, X7, Z7⟩ := HR7.out
        exact ⟨1, A6, n + 8, k6, a1, l1, k1, by omega, rfl, Z7, C7, Q7, P7, R7, X7⟩
      case measure => simp [intOf]
    · have HFN := Lib.hid (show fr 1 = p ++ [src / 256 % 256, src % 256, seq / 256 % 256, seq % 256, 161, 0, (n : Int) / 256 % 256, (n : Int) % 256] from HFR.out 1)
      have HL0 := Lib.hid (World.ownsRow_lit (base := wr.heap.size) (e := 5) (size := 1) wr #[] 0 (Nat.le_refl _) (by unfold maxLen; omega) rfl)
      have HS2 := Lib.hid (HSRC.out _ (HX.out.alloc (.cells #[] 5)))
      have HP0 := Lib.hid hp0
      have HP1 := Lib.hid hp1
      clear hp0 hp1
      go_wp2_with (first
        | (at_builtin; refine wpList_append_src _ rfl (.tmp 29) (.tmp 30) _ rfl wr.heap.size 5 i0 _ 1 1 Try.underlying51 hi0 hz0 hz1 hz2 rfl (by omega) _ (0) ([]) rfl (HL0.out) _ n _ (p.map (Value.int .u8)) rfl (HS2.out) (by unfold maxLen; have := HN15.out; omega) (by have := HN15.out; omega) (((Ext.refl wr).alloc (.cells #[] 5)).size) ?_
           intro A2 k2 w2 hown2 hg2 hat2; simp only [Nat.zero_add, List.nil_append] at hown2
           have E2 : Ext wr w2 := ((Ext.refl wr).alloc (.cells #[] 5)).grown hg2 (fun g hg => (HL0.out.lt g hg).1)
           have O2 := Lib.hid hown2
           clear hown2 hg2 hat2)
        | (go_at_call 33; (with_reducible refine (HB1.out _).mono ?_); rintro e b1 ⟨ba1, bc1, rfl, y1, s1⟩; have F1 : Ext wr b1 := E2.trans y1; have S1 := Lib.hid s1; clear s1)
        | (at_builtin; refine wpList_append_src _ rfl (.tmp 32) (.tmp 34) _ rfl wr.heap.size 5 i0 _ 1 1 Try.underlying51 hi0 hz0 hz1 hz2 rfl (by omega) _ (n) (p.map (Value.int .u8)) rfl (own_ext O2.out y1) _ 2 _ ([.int .u8 (src / 256 % 256), .int .u8 (src % 256)]) rfl (S1.out) (by unfold maxLen; have := HN15.out; omega) (by have := HN15.out; omega) (F1.size) ?_
           intro A3 k3 w3 hown3 hg3 hat3
           have E3 : Ext wr w3 := F1.grown hg3 (fun g hg => (O2.out.lt g hg).1)
           have O3 := Lib.hid hown3
           clear hown3 hg3 hat3)
        | (go_at_call 33; (with_reducible refine (HB2.out _).mono ?_); rintro e b2 ⟨ba2, bc2, rfl, y2, s2⟩; have F2 : Ext wr b2 := E3.trans y2; have S2 := Lib.hid s2; clear s2)
        | (at_builtin; refine wpList_append_src _ rfl (.tmp 36) (.tmp 38) _ rfl wr.heap.size 5 i0 _ 1 1 Try.underlying51 hi0 hz0 hz1 hz2 rfl (by omega) _ (n + 2) (p.map (Value.int .u8) ++ [.int .u8 (src / 256 % 256), .int .u8 (src % 256)]) rfl (own_ext O3.out y2) _ 2 _ ([.int .u8 (seq / 256 % 256), .int .u8 (seq % 256)]) rfl (S2.out) (by unfold maxLen; have := HN15.out; omega) (by have := HN15.out; omega) (F2.size) ?_
           intro A4 k4 w4 hown4 hg4 hat4
           have E4 : Ext wr w4 := F2.grown hg4 (fun g hg => (O3.out.lt g hg).1)
           have O4 := Lib.hid hown4
           clear hown4 hg4 hat4)
        | (at_builtin; refine wpList_append_src _ rfl (.tmp 40) (.tmp 44) _ rfl wr.heap.size 5 i0 _ 1 1 Try.underlying51 hi0 hz0 hz1 hz2 rfl (by omega) _ (n + 2 + 2) (p.map (Value.int .u8) ++ [.int .u8 (src / 256 % 256), .int .u8 (src % 256)] ++ [.int .u8 (seq / 256 % 256), .int .u8 (seq % 256)]) rfl (O4.out.alloc _) _ 2 _ ([.int .u8 161, .int .u8 0]) rfl (Src.litM w4 #[.int .u8 161, .int .u8 0] 5 2 _ (by simp) rfl (by simp [Value.oneCell'])) (by unfold maxLen; have := HN15.out; omega) (by have := HN15.out; omega) ((E4.alloc (.cells #[.int .u8 161, .int .u8 0] 5)).size) ?_
           intro A5 k5 w5 hown5 hg5 hat5
           have E5 : Ext wr w5 := (E4.alloc (.cells #[.int .u8 161, .int .u8 0] 5)).grown hg5 (fun g hg => (O4.out.lt g hg).1)
           have O5 := Lib.hid hown5
           clear hown5 hg5 hat5)
        | (go_at_call 33; (with_reducible refine (HB3.out _).mono ?_); rintro e b3 ⟨ba3, bc3, rfl, y3, s3⟩; have F3 : Ext wr b3 := E5.trans y3; have S3 := Lib.hid s3; clear s3)
        | (at_builtin; refine wpList_append_src _ rfl (.tmp 47) (.tmp 50) _ rfl wr.heap.size 5 i0 _ 1 1 Try.underlying51 hi0 hz0 hz1 hz2 rfl (by omega) _ (n + 2 + 2 + 2) (p.map (Value.int .u8) ++ [.int .u8 (src / 256 % 256), .int .u8 (src % 256)] ++ [.int .u8 (seq / 256 % 256), .int .u8 (seq % 256)] ++ [.int .u8 161, .int .u8 0]) rfl (own_ext O5.out y3) _ 2 _ ([.int .u8 ((n : Int) / 256 % 256), .int .u8 ((n : Int) % 256)]) rfl (S3.out) (by unfold maxLen; have := HN15.out; omega) (by have := HN15.out; omega) (F3.size) ?_
           intro A6 k6 w6 hown6 hg6 hat6
           have E6 : Ext wr w6 := F3.grown hg6 (fun g hg => (O5.out.lt g hg).1)
           have O6 := Lib.hid hown6
           have Q6 := Lib.hid (show RB (fun g => g < r) w6 (.slice A6 (n + 8) k6) (fr 1) by
             refine RB.of_own (base := wr.heap.size) (e := 5) (by rw [HFL.out, HFN.out]; simpa using hown6) (HFB.out 1 (by omega) (by omega)) (fun g hg => Nat.lt_of_lt_of_le hg HRW.out))
           have C6 := Lib.hid (HC.out.ext E6)
           have q6 := C6.out.cell
           have f6 := C6.out.frozen
           clear hown6 hg6 hat6)
        | go_in)
      have C7 := C6.out.setCell 1 (.slice A6 (n + 8) k6)
      have A7 := agree_setCell (V := fun g => g < r) (w := w6) (p := ⟨w.heap.size + 1, 1, none⟩) lW (.slice A6 (n + 8) k6)
      have Q7 := Q6.out.agree A7
      have P7 := (HP0.out.ext E6).agree A7
      have R7 := (HR.out.ext E6).setOther (show w.heap.size + 1 ≠ w.heap.size by omega) 1 (.slice A6 (n + 8) k6)
      have X7 := (HX.out.trans E6).setCell (p := ⟨w.heap.size + 1, 1, none⟩) (show w.heap.size ≤ w.heap.size + 1 by omega) (.slice A6 (n + 8) k6)
      have Z7 : r ≤ (w6.setCell ⟨w.heap.size + 1, 1, none⟩ (.slice A6 (n + 8) k6)).heap.size := by have := HRW.out; have := E6.size; simp; omega
      have HR7 := Lib.hid (And.intro C7 (And.intro Q7 (And.intro P7 (And.intro R7 (And.intro X7 Z7)))))
      clear C7 A7 Q7 P7 R7 X7 Z7 q6 f6
      go_roundw
      case rel =>
        obtain ⟨C7, Q7, P7, R7, X7, Z7⟩ := HR7.out
        exact ⟨2, a0, l0, k0, A6, n + 8, k6, by omega, rfl, Z7, C7, P7, Q7, R7, X7⟩
      case measure => simp [intOf]
    · have hp0' : RB (fun g => g < r) wr (.slice a0 l0 k0) (fr 0) := hp0
      have hp1' : RB (fun g => g < r) wr (.slice a1 l1 k1) (fr 1) := hp1
      clear hp0 hp1
      obtain rfl : l0 = n + 8 := (part_len hp0').trans (HFL.out 0)
      obtain rfl : l1 = n + 8 := (part_len hp1').trans (HFL.out 1)
      have q0 := HC.out.cell
      have q1 := HR.out.cell
      have f1 := HR.out.frozen
      have HQ0 := Lib.hid hp0'
      have HQ1 := Lib.hid hp1'
      clear hp0' hp1'
      go_wp2_with fail
      have C3 := put_all (vs := [.slice a0 (n + 8) k0, .slice a1 (n + 8) k1]) HR.out rfl
      have X3 := put_ext (a := w) (Nat.le_refl _) [.slice a0 (n + 8) k0, .slice a1 (n + 8) k1] 0 _ HX.out
      have A3 := agree_put (V := fun g => g < r) (B := w.heap.size) (show w.heap.size < r by omega) [.slice a0 (n + 8) k0, .slice a1 (n + 8) k1] 0 wr
      have Q0 := (HQ0.out.agree A3).weak (V' := Old w) (fun g _ hg => by have h1 : g < w.heap.size := hg; show g < r; omega)
      have Q1 := (HQ1.out.agree A3).weak (V' := Old w) (fun g _ hg => by have h1 : g < w.heap.size := hg; show g < r; omega)
      change bodyPost _ _ _ _ _ (put wr w.heap.size 0 [.slice a0 (n + 8) k0, .slice a1 (n + 8) k1])
      generalize put wr w.heap.size 0 [.slice a0 (n + 8) k0, .slice a1 (n + 8) k1] = w3 at *
      have c3 := C3.cell
      exact bodyPost_ret (v := .tuple #[.agg #[.slice a0 (n + 8) k0, .slice a1 (n + 8) k1], .int .i64 nx, .int .i64 0]) (by simp [results, Try.results18, go_sem, c3, HSEQ.out]) rfl (HF.out _ _ _ _ _ X3 Q0 Q1)
theorem sendR_any {V : Nat → Prop} (p : List Int) (v : Value) (src seq : Int) (w : World) (hp : RB V w v p) : Calls Try.prog 18 #[v, .int .i64 src, .int .i64 seq] w (RetSend w (sendS p src seq)) := by
  unfold sendS
  cases h : word src && word seq
  · rw [if_pos rfl]
    obtain ⟨a, c, rfl, _, _⟩ := hp.form
    exact sendR_bad a _ c src seq w h
  · rw [if_neg (by simp)]
    by_cases hn : 1500 < p.length
    · rw [if_pos hn]
      obtain ⟨a, c, rfl, _, _⟩ := hp.form
      exact sendR_long a _ c src seq w h hn
    · rw [if_neg hn]
      exact sendR_good p v src seq w hp h (by omega)
end Go.Proofs.Ytdnoejdhphpieaa
