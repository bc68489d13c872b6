/- The contract of encode of the reference: layer 10. -/
import Derived.Test.YtjaofbfppnmdjaaTlvD
namespace Go.Proofs.Ytjaofbfppnmdjaa
open Go.RowKit
attribute [local go_sem ↓] Go.wp_at_zero Go.wp_at_succ

/-! ### What it computes -/
def encE {α : Type} (ek : List α → List Int) (x : NodeOf α) : List Int := (x.1 % 256) :: (lenB (x.2.1.length + (ek x.2.2).length) ++ (x.2.1 ++ ek x.2.2))
def encS {α : Type} (ek : List α → List Int) (l : List (NodeOf α)) : List Int := l.flatMap (encE ek)
def encN : (n : Nat) → List (Nd n) → List Int
  | 0, _ => []
  | n + 1, l => encS (encN n) l
theorem encN_nil : ∀ (n : Nat), encN n [] = []
  | 0 => rfl
  | _ + 1 => rfl
theorem encE_len {α : Type} (ek : List α → List Int) (x : NodeOf α) : (encE ek x).length = szE (fun ks => (ek ks).length) x := by
  simp only [encE, szE, List.length_cons, List.length_append]; omega
theorem encS_len {α : Type} (ek : List α → List Int) (l : List (NodeOf α)) : (encS ek l).length = szS (fun ks => (ek ks).length) l := by
  unfold encS szS
  induction l with
  | nil => rfl
  | cons x l ih => simp only [List.flatMap_cons, List.length_append, List.map_cons, List.sum_cons, ih, encE_len]
theorem encN_len : ∀ (n : Nat) (l : List (Nd n)), (encN n l).length = szN n l
  | 0, _ => rfl
  | n + 1, l => by
    have h : (fun ks => (encN n ks).length) = szN n := funext fun ks => encN_len n ks
    have h2 := encS_len (encN n) l
    rw [h] at h2
    exact h2

/-- The row of v. -/
def Own (v : Value) : Nat → Prop := fun k => v.ownBlock = some k
/-- What does not lie in v's row does not lie in the row of what v has become. -/
theorem RB.shift {w1 w2 : World} {v v' x : Value} {bs : List Int} (h : RB (Own v) w1 x bs) (hg : w1.grownBy w2 v.ownBlock) (hat : v'.ownBlock = v.ownBlock ∨ v'.ownBlock = some w1.heap.size) : RB (Own v') w2 x bs := by
  have hw : ∀ k, k < w1.heap.size → Own v' k → Own v k := by
    intro k hk h
    rcases hat with e | e
    · exact (by rw [← e]; exact h : v.ownBlock = some k)
    · rw [Own, e] at h; injection h with h; omega
  have h1 : RB (fun k => Own v k ∨ Own v' k) w1 x bs := h.weak (fun k hk h => h.elim id (hw k hk))
  have h2 := h1.agree ((Agree.of_grown (V := Own v) hg (fun k hk => hk)).mono (fun k hk => Or.inl hk))
  exact h2.weak (fun k _ hk => Or.inr hk)
theorem Own.lt {base : Nat} {e : TypeId} {size : Nat} {w : World} {v : Value} {n : Nat} {xs : List Value} (h : w.ownsRow base e size v n xs) : ∀ k, Own v k → k < w.heap.size := fun k hk => (h.lt k hk).2
theorem info_byte : (Try.prog.info? 5).map (fun i => (i.zero, i.size, i.bytes)) = some (some (.int .u8 0), 1, 1) := by kernel_rfl

set_option maxRecDepth 100000 in
set_option maxHeartbeats 4000000 in
theorem encode10_step {α : Type} (R : Rk α) (V : Nat → Prop) (ek : List α → List Int) (l : List (NodeOf α)) (v : Value) (w : World) (h : (nodesRk R).rk V w v l)
    (hk : ∀ x ∈ l, ∀ w1 kv, R.rk V w1 kv x.2.2 → Calls Try.prog 71 #[kv] w1 (RetB w1 (ek x.2.2)))
    (hb : (encS ek l).length ≤ 4000000000) (hll : l.length ≤ 1000000000) : Calls Try.prog 71 #[v] w (RetB w (encS ek l)) := by
  obtain ⟨i0, hi0, hz0, hz1, hz2⟩ := info_parts info_byte
  obtain ⟨a, c, rfl, hc1, hc2⟩ := (nodesRk R).form h
  have HB := Lib.hid hb
  have HH := Lib.hid h
  have HK := Lib.hid hk
  clear hb h hk hc2
  go_enter Try.func71, Try.ntmps71
  go_wp2
  go_loopw [3, 4] (fun o i wr => ∃ (k : Nat), k ≤ l.length ∧ i = .int .i64 k ∧ wr.ownsRow w.heap.size 5 1 o (encS ek (l.take k)).length ((encS ek (l.take k)).map (Value.int .u8)) ∧ Byt (encS ek (l.take k)) ∧ Ext w wr) (fun _ i _ => l.length - (intOf i).toNat)
  case atStart => exact ⟨0, Nat.zero_le _, rfl, World.ownsRow_nil _ _ _ _, Byt.nil, Ext.refl _⟩
  case round =>
    obtain ⟨k, hk1, rfl, hown, hbyt, hx⟩ := hrel
    by_cases hlt : k < l.length
    · obtain ⟨b, off, c', da, dc, ka, kc, hv, hcap, _, g0, g1, g2, hd, hkk⟩ := node_at ((nodesRk R).ext HH.out hx) hlt
      have hcall := Lib.hid (HK.out l[k] (List.getElem_mem hlt))
      have hsum : encS ek (l.take (k + 1)) = encS ek (l.take k) ++ encE ek l[k] := flatMap_take_succ (encE ek) l k hlt
      have hle : (encS ek (l.take (k + 1))).length ≤ (encS ek l).length := by
        have := sum_take_le (szE fun ks => (ek ks).length) l (k + 1)
        rw [encS_len, encS_len]; exact this
      have hbb := HB.out
      generalize hS : encS ek (l.take k) = S at *
      generalize hS' : encS ek (l.take (k + 1)) = S' at *
      generalize hx1 : l[k] = x at *
      obtain ⟨t, d, ks⟩ := x
      simp only [encE] at *
      generalize hz : ek ks = z at *
      have hlen : S'.length = S.length + (1 + (lenB (d.length + z.length)).length + (d.length + z.length)) := by rw [hsum]; simp; omega
      have b1 : S.length + (1 + (lenB (d.length + z.length)).length + (d.length + z.length)) ≤ 4000000000 := by omega
      have HS := Lib.hid hsum
      have HS2 := Lib.hid hS'
      have HKK := Lib.hid hkk
      have HO := Lib.hid hown
      have HBY := Lib.hid hbyt
      have HD := Lib.hid hd
      simp only [Value.slice.injEq] at hv
      obtain ⟨rfl, -, rfl⟩ := hv
      clear hsum hS hS' hx1 hkk hle hbb HB HK hd hz hlen hown hbyt
      have hki : (k : Int) < l.length := by omega
      go_wp2
      have HL0 := Lib.hid (World.ownsRow_lit (base := wr.heap.size) (e := 5) (size := 1) wr #[] 0 (Nat.le_refl _) (by unfold maxLen; omega) rfl).drew
      have HSRC := Lib.hid (Src.bytes (HD.out.ext ((Ext.refl wr).alloc (.cells #[] 5)))).drew
      go_region_held3 (fun w' => w'.cell? ⟨b, off + k * 3 + 1, none⟩ = some (.slice da d.length dc) ∧ w'.cell? ⟨b, off + k * 3 + 2, none⟩ = some (.slice ka ks.length kc))
        (first | exact ⟨g1, g2⟩ | exact ⟨((Ext.refl _).drew.alloc _).cell (by exact g1), ((Ext.refl _).drew.alloc _).cell (by exact g2)⟩ | exact ⟨hE1.cell (by exact g1), hE1.cell (by exact g2)⟩ | exact ⟨(hE1.trans he2).cell (by exact g1), (hE1.trans he2).cell (by exact g2)⟩ | exact ⟨hE3.cell (by exact g1), hE3.cell (by exact g2)⟩)
        (first
          | (refine step_append_src _ (by rfl) (.tmp 12) (.tmp 17) _ (by rfl) wr.heap.size 5 i0 _ 1 1 Try.underlying25 hi0 hz0 hz1 hz2 (by rfl) (by omega) _ 0 [] (by rfl) HL0.out da d.length dc _ (by rfl) HSRC.out (by unfold maxLen; omega) (by omega) (by simp) ?_; intro A1 c1 w1 hown1 hg1 hat1; have hE1 : Ext wr w1 := ((Ext.refl wr).alloc _).drew.grown hg1 (fun g hg => (HL0.out.lt g hg).1); simp only [Nat.zero_add, List.nil_append] at hown1 hat1)
          | (go_at_call 71; refine (hcall.out _ _ (R.ext HKK.out hE1)).mono ?_; rintro e w2 ⟨ea, ec, rfl, he2, hre⟩)
          | (refine step_append_src _ (by rfl) (.tmp 18) (.tmp 24) _ (by rfl) wr.heap.size 5 i0 _ 1 1 Try.underlying25 hi0 hz0 hz1 hz2 (by rfl) (by omega) _ d.length (d.map (Value.int .u8)) (by rfl) (own_ext hown1 he2) ea z.length ec _ (by rfl) (Src.bytes (hre Any (fun _ h => h.elim))) (by unfold maxLen; omega) (by omega) (hE1.trans he2).size ?_; intro A3 c3 w3 hown3 hg3 hat3; have hE3 : Ext wr w3 := (hE1.trans he2).grown hg3 (fun g hg => (hown1.lt g hg).1)))
      have HC : Hid (RB (Own u3) w3 (.slice A3 (d.length + z.length) c3) (d ++ z)) := by
        have hl : (d ++ z).length = d.length + z.length := List.length_append
        have h := RB.of_own (V := Own u3) (bs := d ++ z) (by rw [hl, List.map_append]; exact hown3) (HD.out.byt.append (hre Any (fun _ h => h.elim)).byt) (Own.lt HO.out)
        exact h
      have HBC := Lib.hid ((HD.out.byt).append (hre Any (fun _ h => h.elim)).byt)
      have HOW := Lib.hid (own_ext HO.out hE3)
      have g0' := hE3.cell g0
      have hX3 := hx.trans hE3
      have HLC : Hid (d.length + z.length = (d ++ z).length) := List.length_append.symm
      clear hown1 hg1 hat1 hE1 he2 hre hown3 hg3 hat3 HL0 HSRC hcall HKK HO g0 g1 g2 hE3 HD
      generalize hcc : d ++ z = cc at *
      generalize hmm : d.length + z.length = m at *
      generalize hss : S.length = sl at *
      have HSL := Lib.hid hss
      have HT : Hid (S' = S ++ (t % 256 :: (lenB m ++ cc))) := HS.out
      clear hcc hmm hss HS
      have hlb := lenB_le m
      have hlp := lenB_pos m
      go_wp2_with (first
        | (at_builtin; refine wpList_append_src _ rfl (.tmp 26) (.tmp 33) _ rfl w.heap.size 5 i0 _ 1 1 Try.underlying25 hi0 hz0 hz1 hz2 rfl (by omega) _ sl _ rfl (HOW.out.alloc _) _ 1 1 _ rfl (Src.lit _ #[_] _ 1 rfl (by simp [Value.oneCell'])) (by unfold maxLen; omega) (by omega) (Nat.le_trans hX3.size (by simp)) ?_; intro A4 c4 w4 hown4 hg4 hat4; have hX4 : Ext w w4 := (hX3.alloc _).grown hg4 (fun g hg => (HOW.out.lt g hg).1); have hC4 := Lib.hid ((HC.out.ext ((Ext.refl _).alloc _)).shift hg4 hat4))
        | (go_at_call 88; refine (lengthR_any m _).mono ?_; rintro e w5 ⟨a5, c5, rfl, he5, hr5⟩)
        | (at_builtin; refine wpList_append_src _ rfl (.tmp 35) (.tmp 38) _ rfl w.heap.size 5 i0 _ 1 1 Try.underlying25 hi0 hz0 hz1 hz2 rfl (by omega) _ (sl + 1) _ rfl (own_ext hown4 he5) a5 (lenB m).length c5 _ rfl (Src.bytes (hr5 Any (fun _ h => h.elim))) (by unfold maxLen; omega) (by omega) (hX4.trans he5).size ?_; intro A6 c6 w6 hown6 hg6 hat6; have hX6 : Ext w w6 := (hX4.trans he5).grown hg6 (fun g hg => (hown4.lt g hg).1); have hC6 := Lib.hid ((hC4.out.ext he5).shift hg6 hat6))
        | (at_builtin; refine wpList_append_src _ rfl (.tmp 40) (.tmp 41) _ rfl w.heap.size 5 i0 _ 1 1 Try.underlying25 hi0 hz0 hz1 hz2 rfl (by omega) _ (sl + 1 + (lenB m).length) _ rfl hown6 A3 m c3 _ rfl (Src.bytes hC6.out) (by unfold maxLen; omega) (by omega) hX6.size ?_; intro A8 c8 w8 hown8 hg8 hat8; have hX8 : Ext w w8 := hX6.grown hg8 (fun g hg => (hown6.lt g hg).1)))
      have hl8 : sl + 1 + (lenB m).length + m = S'.length := by
        rw [HT.out, List.length_append, List.length_cons, List.length_append, HSL.out, ← HLC.out]; omega
      have hown9 : w8.ownsRow w.heap.size 5 1 (.slice A8 (sl + 1 + (lenB m).length + m) c8) S'.length (S'.map (Value.int .u8)) := by
        rw [← hl8]
        have e : S'.map (Value.int .u8) = S.map (Value.int .u8) ++ [Value.int .u8 (t % 256)] ++ (lenB m).map (Value.int .u8) ++ cc.map (Value.int .u8) := by
          rw [HT.out]; simp
        rw [e]
        exact hown8
      have hbyt9 : Byt S' := by
        rw [HT.out]
        refine HBY.out.append (fun y hy => ?_)
        rcases List.mem_cons.1 hy with hy | hy
        · subst hy; omega
        · exact (lenB_byt m).append HBC.out y hy
      have HO9 := Lib.hid hown9
      have HB9 := Lib.hid hbyt9
      go_roundw
      case rel => exact ⟨k + 1, by omega, by go_num, by rw [HS2.out]; exact HO9.out, by rw [HS2.out]; exact HB9.out, hX8⟩
      case measure => simp [intOf]; omega
    · have hl := take_all l k (by omega)
      rw [hl] at hown hbyt
      have HO := Lib.hid hown
      have HBY := Lib.hid hbyt
      clear hown hbyt
      go_wp2
      obtain ⟨a', c', rfl⟩ := owns_slice HO.out
      go_ret
      exact ⟨_, _, rfl, hx, fun V hV => RB.of_own HO.out HBY.out hV⟩
theorem encode10_any : ∀ (n : Nat) (V : Nat → Prop) (l : List (Nd n)) (v : Value) (w : World), (RkN n).rk V w v l → cntN n l ≤ 1000000000 →
    Calls Try.prog 71 #[v] w (RetB w (encN n l))
  | 0, V, l, v, w, h, _ => by
    have hl := nd_zero l
    subst hl
    exact encode10_step (α := Empty) emptyRk V (fun _ => []) [] v w (rkn_zero h) (fun x hx => by cases hx) (by simp [encS]) (by simp)
  | n + 1, V, l, v, w, h, hb => encode10_step (RkN n) V (encN n) l v w h (fun x hx w1 kv hkv => encode10_any n V x.2.2 kv w1 hkv (by
      have h1 : cntS (cntN n) l ≤ 1000000000 := hb
      have h2 := sum_mem_le (fun x : NodeOf (Nd n) => x.2.1.length + cntN n x.2.2) l x hx
      unfold cntS at h1
      omega)) (by have := szN_le (n + 1) l; have := encN_len (n + 1) l; show (encN (n + 1) l).length ≤ _; omega) (by
      have h1 : cntS (cntN n) l ≤ 1000000000 := hb
      unfold cntS at h1
      omega)
end Go.Proofs.Ytjaofbfppnmdjaa
