/- The walk of the statement TlvTruncation. -/
import Derived.Test.YtojiddkaeoifcaaTlvDecodesWalk
import Derived.Test.YtojiddkaeoifcaaTlvQ
namespace Go.Proofs.Ytojiddkaeoifcaa
open Go.RowKit
attribute [local go_sem ↓] Go.wp_at_zero Go.wp_at_succ

theorem slice_h1 (w : World) (b off len cap c : Nat) (h : 1 + c ≤ cap) :
    (Instr.slice 22 (.slice (some ⟨b, off, none⟩) len cap) none (some (.int .i64 (1 + (c : Int)))) none).run Try.prog w = .ok (.slice (some ⟨b, off, none⟩) (1 + c) cap) w := by
  have := slice_h w b off len cap (1 + c) h
  rwa [show ((1 + c : Nat) : Int) = 1 + (c : Int) by omega] at this
attribute [local go_sem high] slice_h1
theorem RB.pre {V : Nat → Prop} {w : World} {b off m c : Nat} {bs : List Int} (h : RB V w (.slice (some ⟨b, off, none⟩) m c) bs) (n : Nat) (hf : n ≤ bs.length) : RB V w (.slice (some ⟨b, off, none⟩) n c) (bs.take n) := by
  obtain ⟨_, _, hv, h1, h2⟩ := h.form
  simp only [Value.slice.injEq] at hv
  obtain ⟨_, _, rfl⟩ := hv
  have := h.sub 0 n c (by omega) (by omega) h2
  simpa using this
theorem node_one {m : Nat} {w : World} {x : NodeOf (Nd m)} {dv kv : Value} (h : nodeRep (RkN m) Any w x [.int .i64 x.1, dv, kv]) (w1 : World) (he : Ext w w1) (B : Nat) (hB : w1.heap.size = B) :
    (RkN (m + 1)).rk Any (w1.alloc (.cells #[.int .i64 x.1, dv, kv] 26)) (.slice (some ⟨B, 0, none⟩) 1 1) [x] := by
  refine RS.one w1 _ _ B hB x rfl ?_ (fun h => h)
  obtain ⟨d', k', hc, hd, hk⟩ := h
  simp only [List.cons.injEq, and_true, true_and] at hc
  obtain ⟨rfl, rfl⟩ := hc
  exact ⟨_, _, rfl, hd.ext (he.alloc _), (RkN m).ext hk (he.alloc _)⟩

set_option maxRecDepth 100000 in
set_option maxHeartbeats 4000000 in
theorem trunc_walk (m : Nat) (hm : 6 ≤ m) (x : NodeOf (Nd m)) (dv kv : Value) (cut : Int) (w : World) (h : nodeRep (RkN m) Any w x [.int .i64 x.1, dv, kv]) (hc : cntN (m + 1) [x] ≤ 1000000000) :
    Calls Try.prog 7 #[.agg #[.int .i64 x.1, dv, kv], .int .i64 cut] w fun e w' => e = .returned (.bool true) ∧ Ext w w' := by
  obtain ⟨i0, hi0, hz0, hz1, hz2⟩ := info_parts info_byte
  have hbox : ∀ w1, Ext (w.alloc (.cells #[.int .i64 x.1, dv, kv] 26)) w1 → w1.cell? ⟨w.heap.size, 0, none⟩ = some (.int .i64 x.1) ∧ w1.cell? ⟨w.heap.size, 1, none⟩ = some dv ∧ w1.cell? ⟨w.heap.size, 2, none⟩ = some kv := fun w1 h1 =>
    ⟨h1.cell (by simp), h1.cell (by simp), h1.cell (by simp)⟩
  have HBOX := Lib.hid hbox
  have X0 : Ext w (w.alloc (.cells #[.int .i64 x.1, dv, kv] 26)) := (Ext.refl w).alloc _
  have hk := Lib.hid (known10_any (w.alloc (.cells #[.int .i64 x.1, dv, kv] 26)))
  have la := Lib.hid (fun w1 (h1 : Ext w w1) B hB => large_any (m + 1) Any [x] _ _ (node_one h w1 h1 B hB) hc)
  have ea := Lib.hid (fun w1 (h1 : Ext w w1) B hB => encodeP_any (m + 1) Any [x] _ _ (node_one h w1 h1 B hB) hc)
  have dd := Lib.hid (fun w1 v1 bs (h1 : RB Any w1 v1 bs) => decodeP_any (m + 1) bs v1 w1 (by omega) h1)
  have T1 := Lib.hid (fun c => trunc_take m x c)
  have T2 := Lib.hid (fun z => trunc_more m [x] z)
  clear hbox h hc
  generalize largeN (m + 1) [x] = xa at *
  generalize x.1 = tg at *
  cases xa
  · by_cases her : encErr (m + 1) [x] = 0
    · rw [her] at ea
      replace T1 := Lib.hid (fun c => T1.out c her)
      replace T2 := Lib.hid (fun c => T2.out c her)
      clear her
      generalize encOut (m + 1) [x] = bs at *
      generalize hbl : bs.length = bl at *
      have HBL := Lib.hid hbl
      clear hbl
      by_cases hlo : 2 ≤ bl ∧ bl < 1500
      · obtain ⟨hlo1, hlo2⟩ := hlo
        have w1 := Lib.hid (fun w1 => within10_any cut ((bl : Int) - 1) w1 (by omega) (by omega))
        have hcr1 := Int.emod_nonneg cut (show (bl : Int) - 1 ≠ 0 by omega)
        have hcr2 := Int.emod_lt_of_pos cut (show 0 < (bl : Int) - 1 by omega)
        obtain ⟨c, hcc⟩ : ∃ c : Nat, cut % ((bl : Int) - 1) = c := ⟨(cut % ((bl : Int) - 1)).toNat, by omega⟩
        rw [hcc] at w1 hcr1 hcr2
        clear hcc
        have hc1 : 1 + c < bl := by omega
        have b1 : ¬ ((bl : Int) < 2) := by omega
        have b2 : ¬ ((1500 : Int) ≤ bl) := by omega
        go_enter Try.func7, Try.ntmps7
        go_wp2_with fail
        refine hk.out.mono ?_
        rintro e w1' ⟨rfl, he1⟩
        obtain ⟨g0, g1, g2⟩ := HBOX.out _ he1
        have x1 := X0.trans he1
        go_wp2_with fail
        refine (la.out _ x1 _ rfl).mono ?_
        rintro e w2 ⟨rfl, he2⟩
        have y2 := (he1.alloc _).trans he2
        obtain ⟨g0, g1, g2⟩ := HBOX.out _ y2
        have x2 := X0.trans y2
        go_wp2_with fail
        refine (ea.out _ x2 _ rfl).mono ?_
        rintro e w3 ⟨a3, c3, he, he3, hr3⟩
        rw [HBL.out] at he hr3
        subst he
        have x3 := (x2.alloc _).trans he3
        go_wp2_with fail
        refine (w1.out _).mono ?_
        rintro e w4 ⟨rfl, rfl⟩
        have hr4 := hr3 Any (fun _ h => h.elim)
        obtain ⟨b3, o3, rfl⟩ : ∃ b3 o3, a3 = some ⟨b3, o3, none⟩ := by
          obtain ⟨b3, o3, c4, hv, _⟩ := hr4.at_ (by rw [HBL.out]; omega)
          simp only [Value.slice.injEq] at hv
          exact ⟨b3, o3, hv.1⟩
        obtain ⟨_, _, hv, hcap, hmx⟩ := hr4.form
        simp only [Value.slice.injEq] at hv
        obtain ⟨-, -, rfl⟩ := hv
        rw [HBL.out] at hcap
        have HR4 := Lib.hid hr4
        have D1 := Lib.hid (dd.out _ _ _ (hr4.pre (1 + c) (by rw [HBL.out]; omega)))
        have t1 := T1.out (1 + c) (by omega) (by omega)
        clear hr4 hr3 g0 g1 g2
        generalize decTop (m + 1) (List.take (1 + c) bs) = z1 at *
        obtain ⟨z1a, z1b⟩ := z1
        simp only at t1
        subst t1
        go_wp2_with fail
        refine D1.out.mono ?_
        rintro e w5 ⟨a5, c5, rfl, he5, -⟩
        have x5 := x3.trans he5
        have HSRC := Lib.hid (Src.bytes ((HR4.out.ext he5).ext ((Ext.refl _).alloc (.cells #[] 5))))
        have HO0 := Lib.hid (World.ownsRow_litB w5 w5.heap.size rfl)
        have t2 := T2.out ((1 + (c : Int)) % 256) hlo2
        have BY := Lib.hid (HR4.out.byt.append (b := [(1 + (c : Int)) % 256]) (fun y hy => by simp only [List.mem_singleton] at hy; subst hy; omega))
        have HMM := Lib.hid (show (bs ++ [(1 + (c : Int)) % 256]).map (Value.int .u8) = bs.map (Value.int .u8) ++ [.int .u8 ((1 + (c : Int)) % 256)] by simp)
        have HNN := Lib.hid (show (bs ++ [(1 + (c : Int)) % 256]).length = bl + 1 by rw [List.length_append, HBL.out]; rfl)
        have D2 := Lib.hid (fun w1 v1 (h1 : RB Any w1 v1 (bs ++ [(1 + (c : Int)) % 256])) => dd.out w1 v1 _ h1)
        clear T2
        generalize bs ++ [(1 + (c : Int)) % 256] = bz at *
        generalize bs.map (Value.int .u8) = ms at *
        go_wp2_with (first
          | (at_builtin; refine wpList_append_src _ rfl (.tmp 48) (.tmp 49) _ rfl w5.heap.size 5 i0 _ 1 1 Try.underlying22 hi0 hz0 hz1 hz2 rfl (by omega) _ 0 [] rfl HO0.out _ bl c3 _ rfl HSRC.out (by unfold maxLen; omega) (by omega) (by simp) ?_; intro A6 c6 w6 hown6 hg6 hat6; have he6 : Ext w5 w6 := ((Ext.refl w5).alloc _).grown hg6 (fun g hg => (HO0.out.lt g hg).1); simp only [Nat.zero_add, List.nil_append] at hown6 hat6; have HO6 := Lib.hid hown6; clear hown6 hg6 hat6)
          | (at_builtin; refine wpList_append_src _ rfl (.tmp 50) (.tmp 53) _ rfl w5.heap.size 5 i0 _ 1 1 Try.underlying22 hi0 hz0 hz1 hz2 rfl (by omega) _ bl _ rfl (HO6.out.alloc _) _ 1 1 _ rfl (Src.litB w6 _ 5 1 _ rfl rfl (by simp [Value.oneCell'])) (by unfold maxLen; omega) (by omega) (by have := he6.size; simp; omega) ?_; intro A7 c7 w7 hown7 hg7 hat7; have he7 : Ext w5 w7 := (he6.alloc _).grown hg7 (fun g hg => (HO6.out.lt g hg).1); have HO7 := Lib.hid hown7; clear hown7 hg7 hat7))
        have hRB : RB Any w7 (.slice A7 (bl + 1) c7) bz := by
          have := HO7.out
          rw [← HMM.out, ← HNN.out] at this
          have h2 := RB.of_own (V := Any) this BY.out (fun _ h => h.elim)
          rwa [HNN.out] at h2
        have D3 := Lib.hid (D2.out _ _ hRB)
        clear hRB D2
        generalize decTop (m + 1) bz = z2 at *
        obtain ⟨z2a, z2b⟩ := z2
        simp only at t2
        have t3 : (z2b != 0) = true := by simpa using t2
        clear t2
        refine D3.out.mono ?_
        rintro e w8 ⟨a8, c8, rfl, he8, -⟩
        go_wp2_with fail
        go_ret
        exact ⟨rfl, (x5.trans he7).trans he8⟩
      · by_cases h2 : bl < 2
        · have b1 : (bl : Int) < 2 := by omega
          go_enter Try.func7, Try.ntmps7
          go_wp2_with fail
          refine hk.out.mono ?_
          rintro e w1' ⟨rfl, he1⟩
          obtain ⟨g0, g1, g2⟩ := HBOX.out _ he1
          have x1 := X0.trans he1
          go_wp2_with fail
          refine (la.out _ x1 _ rfl).mono ?_
          rintro e w2 ⟨rfl, he2⟩
          have y2 := (he1.alloc _).trans he2
          obtain ⟨g0, g1, g2⟩ := HBOX.out _ y2
          have x2 := X0.trans y2
          go_wp2_with fail
          refine (ea.out _ x2 _ rfl).mono ?_
          rintro e w3 ⟨a3, c3, he, he3, hr3⟩
          rw [HBL.out] at he
          subst he
          clear hr3
          go_wp2_with fail
          go_ret
          exact ⟨rfl, (x2.alloc _).trans he3⟩
        · have b1 : ¬ (bl : Int) < 2 := by omega
          have b2 : (1500 : Int) ≤ bl := by omega
          go_enter Try.func7, Try.ntmps7
          go_wp2_with fail
          refine hk.out.mono ?_
          rintro e w1' ⟨rfl, he1⟩
          obtain ⟨g0, g1, g2⟩ := HBOX.out _ he1
          have x1 := X0.trans he1
          go_wp2_with fail
          refine (la.out _ x1 _ rfl).mono ?_
          rintro e w2 ⟨rfl, he2⟩
          have y2 := (he1.alloc _).trans he2
          obtain ⟨g0, g1, g2⟩ := HBOX.out _ y2
          have x2 := X0.trans y2
          go_wp2_with fail
          refine (ea.out _ x2 _ rfl).mono ?_
          rintro e w3 ⟨a3, c3, he, he3, hr3⟩
          rw [HBL.out] at he
          subst he
          clear hr3
          go_wp2_with fail
          go_ret
          exact ⟨rfl, (x2.alloc _).trans he3⟩
    · have her2 : (encErr (m + 1) [x] != 0) = true := by simpa using her
      generalize encErr (m + 1) [x] = er at *
      generalize hbl : (encOut (m + 1) [x]) = bs at *
      clear T1 T2 her
      go_enter Try.func7, Try.ntmps7
      go_wp2_with fail
      refine hk.out.mono ?_
      rintro e w1' ⟨rfl, he1⟩
      obtain ⟨g0, g1, g2⟩ := HBOX.out _ he1
      have x1 := X0.trans he1
      go_wp2_with fail
      refine (la.out _ x1 _ rfl).mono ?_
      rintro e w2 ⟨rfl, he2⟩
      have y2 := (he1.alloc _).trans he2
      obtain ⟨g0, g1, g2⟩ := HBOX.out _ y2
      have x2 := X0.trans y2
      go_wp2_with fail
      refine (ea.out _ x2 _ rfl).mono ?_
      rintro e w3 ⟨a3, c3, he, he3, hr3⟩
      subst he
      clear hr3
      go_wp2_with fail
      go_ret
      exact ⟨rfl, (x2.alloc _).trans he3⟩
  · clear T1 T2
    go_enter Try.func7, Try.ntmps7
    go_wp2_with fail
    refine hk.out.mono ?_
    rintro e w1' ⟨rfl, he1⟩
    obtain ⟨g0, g1, g2⟩ := HBOX.out _ he1
    have x1 := X0.trans he1
    go_wp2_with fail
    refine (la.out _ x1 _ rfl).mono ?_
    rintro e w2 ⟨rfl, he2⟩
    have y2 := (he1.alloc _).trans he2
    go_wp2_with fail
    go_ret
    exact ⟨rfl, X0.trans y2⟩
end Go.Proofs.Ytojiddkaeoifcaa
