/- The contract of write of the program: layer 10. -/
import Derived.Test.YtjaofbfppnmdjaaTlvE
namespace Go.Proofs.Ytjaofbfppnmdjaa
open Go.RowKit
attribute [local go_sem ↓] Go.wp_at_zero Go.wp_at_succ

/-- Nodes without an error: constructed ones have no data, primitive ones no kids. -/
def okE {α : Type} (ok : List α → Prop) (x : NodeOf α) : Prop := (nestB x.1 = true ∧ x.2.1 = [] ∧ ok x.2.2) ∨ (nestB x.1 = false ∧ x.2.2 = [])
def okN : (n : Nat) → List (Nd n) → Prop
  | 0, _ => True
  | n + 1, l => ∀ x ∈ (show List (NodeOf (Nd n)) from l), okE (okN n) x
theorem okN_of : ∀ (n : Nat) (l : List (Nd n)) (d : Int), chkN n l d = 0 → okN n l
  | 0, _, _, _ => trivial
  | n + 1, l, d, h => by
    intro x hx
    have h1 : errS (chkN n) d x = 0 := fstErr_zero (errS (chkN n) d) l h x hx
    unfold errS at h1
    split at h1
    · cases h1
    split at h1
    · cases h1
    split at h1
    · cases h1
    rename_i h2
    have ih := okN_of n x.2.2 (d + 1) h1
    cases hn : nestB x.1 with
    | true => exact .inl ⟨hn, List.eq_nil_of_length_eq_zero (by
        rcases Nat.eq_zero_or_pos x.2.1.length with h | h
        · exact h
        · exact absurd (Or.inl ⟨hn, h⟩) h2), ih⟩
    | false => exact .inr ⟨hn, List.eq_nil_of_length_eq_zero (by
        rcases Nat.eq_zero_or_pos x.2.2.length with h | h
        · exact h
        · exact absurd (Or.inr ⟨hn, h⟩) h2)⟩

theorem ext_of_grown {w w' : World} (h : w.grownBy w' none) : Ext w w' := (Ext.refl w).grown h (fun k hk => by cases hk)
theorem RB.capcut {V : Nat → Prop} {w : World} {a : Option Addr} {n c : Nat} {bs : List Int} (h : RB V w (.slice a n c) bs) : RB V w (.slice a n n) bs := by
  obtain ⟨hb, a', c', hv, h1, h2, h3⟩ := h
  simp only [Value.slice.injEq] at hv
  obtain ⟨rfl, rfl, rfl⟩ := hv
  exact ⟨hb, a, bs.length, rfl, Nat.le_refl _, by omega, h3⟩
/-- It returns xs and the bytes of the nodes; only v's row may have turned. -/
def RetW (w : World) (base : Nat) (v : Value) (bs : List Int) (e : Ending) (w' : World) : Prop :=
  ∃ a c, e = .returned (.slice a bs.length c) ∧ w.grownBy w' v.ownBlock ∧ RB (fun k => k < base) w' (.slice a bs.length c) bs
/-- v, or a row that is newer than w. -/
def Later (w : World) (v o : Value) : Prop := o.ownBlock = v.ownBlock ∨ ∃ g, o.ownBlock = some g ∧ w.heap.size ≤ g
theorem Later.next {w w1 : World} {v o o' : Value} (h : Later w v o) (hw : w.heap.size ≤ w1.heap.size) (hat : o'.ownBlock = o.ownBlock ∨ o'.ownBlock = some w1.heap.size) : Later w v o' := by
  rcases hat with e | e
  · unfold Later; rw [e]; exact h
  · exact .inr ⟨_, e, hw⟩
theorem grown_step {w w1 w2 : World} {v o : Value} (h : w.grownBy w1 v.ownBlock) (hl : Later w v o) (h2 : w1.grownBy w2 o.ownBlock) : w.grownBy w2 v.ownBlock :=
  ⟨h2.os.trans h.os, h2.tape.trans h.tape, h2.output.trans h.output, Nat.le_trans h.size h2.size, fun k hk hne => (h2.block k (Nat.lt_of_lt_of_le hk h.size) (by
    rcases hl with e | ⟨g, e, hg⟩
    · rw [e]; exact hne
    · rw [e]; intro hh; injection hh with hh; omega)).trans (h.block k hk hne)⟩
theorem grown_thenExt {w w1 w2 : World} {row : Option Nat} (h : w.grownBy w1 row) (h2 : Ext w1 w2) : w.grownBy w2 row := by
  have h3 : Below w1.heap.size w1 w2 := h2
  exact ⟨h3.os.trans h.os, h3.tape.trans h.tape, h3.output.trans h.output, Nat.le_trans h.size h3.size, fun k hk hne => (h3.block k (Nat.lt_of_lt_of_le hk h.size)).trans (h.block k hk hne)⟩

set_option maxRecDepth 100000 in
set_option maxHeartbeats 4000000 in
theorem write_step {α : Type} (R : Rk α) (ok : List α → Prop) (ek : List α → List Int) (l : List (NodeOf α)) (lv v : Value) (base : Nat) (xs : List Int) (w : World) (h : (nodesRk R).rk (Own v) w lv l)
    (hown : w.ownsRow base 5 1 v xs.length (xs.map (Value.int .u8))) (hbase : base ≤ w.heap.size) (hxs : Byt xs) (hok : ∀ x ∈ l, okE ok x) (hek : ek [] = [])
    (hk : ∀ x ∈ l, ok x.2.2 → ∀ w1 kv, R.rk (Own (.slice none 0 0)) w1 kv x.2.2 → Calls Try.prog 68 #[.slice none 0 0, kv] w1 (RetW w1 w1.heap.size (.slice none 0 0) (ek x.2.2)))
    (hb : (encS ek l).length ≤ 4000000000) (hxl : xs.length ≤ 1000000000) (hll : l.length ≤ 1000000000) : Calls Try.prog 68 #[v, lv] w (RetW w base v (xs ++ encS ek l)) := by
  obtain ⟨i0, hi0, hz0, hz1, hz2⟩ := info_parts info_byte
  obtain ⟨a, c, rfl, hc1, hc2⟩ := (nodesRk R).form h
  obtain ⟨va, vc, rfl⟩ := owns_slice hown
  have HB := Lib.hid hb
  have HH := Lib.hid h
  have HK := Lib.hid hk
  have HO := Lib.hid hown
  have HXS := Lib.hid hxs
  have HOK := Lib.hid hok
  have HEK := Lib.hid hek
  clear hb h hk hc2 hown hxs hok hek
  generalize hV : Value.slice va xs.length vc = V at *
  have HVV := Lib.hid hV
  clear hV
  go_enter Try.func68, Try.ntmps68
  go_wp2
  go_loopw [0, 10] (fun o i wr => ∃ (k : Nat), k ≤ l.length ∧ i = .int .i64 k ∧ wr.ownsRow base 5 1 o (xs ++ encS ek (l.take k)).length ((xs ++ encS ek (l.take k)).map (Value.int .u8)) ∧ Byt (xs ++ encS ek (l.take k)) ∧ w.grownBy wr V.ownBlock ∧ Later w V o) (fun _ i _ => l.length - (intOf i).toNat)
  case atStart => exact ⟨0, Nat.zero_le _, rfl, by simpa [encS] using HO.out, by simpa [encS] using HXS.out, World.grownBy.refl _ _, .inl rfl⟩
  case round =>
    obtain ⟨k, hk1, rfl, hown, hbyt, hgr, hlater⟩ := hrel
    by_cases hlt : k < l.length
    · have hrk : (nodesRk R).rk (Own u0) wr (.slice a l.length c) l := by
        have h1 : (nodesRk R).rk (fun g => Own V g ∨ Own u0 g) w (.slice a l.length c) l := (nodesRk R).weak HH.out (fun g hg hh => by
          rcases hh with hh | hh
          · exact hh
          · rcases hlater with e | ⟨g', e, hg'⟩
            · exact (by rw [← e]; exact hh : V.ownBlock = some g)
            · rw [Own, e] at hh; injection hh with hh; omega)
        exact (nodesRk R).weak ((nodesRk R).agree h1 ((Agree.of_grown (V := Own V) hgr (fun _ hh => hh)).mono (fun _ hh => Or.inl hh))) (fun _ _ hh => Or.inr hh)
      obtain ⟨b, off, c', da, dc, ka, kc, hv, hcap, _, g0, g1, g2, hd, hkk⟩ := node_at hrk hlt
      have hokk := HOK.out l[k] (List.getElem_mem hlt)
      have hcall := Lib.hid (HK.out l[k] (List.getElem_mem hlt))
      have hsum : encS ek (l.take (k + 1)) = encS ek (l.take k) ++ encE ek l[k] := flatMap_take_succ (encE ek) l k hlt
      have hle : (encS ek (l.take (k + 1))).length ≤ (encS ek l).length := by
        have := sum_take_le (szE fun ks => (ek ks).length) l (k + 1)
        rw [encS_len, encS_len]; exact this
      have hbb := HB.out
      generalize hS : encS ek (l.take k) = S at *
      generalize hS' : encS ek (l.take (k + 1)) = S' at *
      generalize hx1 : l[k] = x at *
      obtain ⟨t, d, ks⟩ := x
      simp only [encE, okE] at *
      have hlen : S'.length = S.length + (1 + (lenB (d.length + (ek ks).length)).length + (d.length + (ek ks).length)) := by rw [hsum]; simp; omega
      have b1 : S.length + (1 + (lenB (d.length + (ek ks).length)).length + (d.length + (ek ks).length)) ≤ 4000000000 := by omega
      have HS := Lib.hid hsum
      have HS2 := Lib.hid hS'
      have HKK := Lib.hid hkk
      have HO := Lib.hid hown
      have HBY := Lib.hid hbyt
      have HD := Lib.hid hd
      have HGR := Lib.hid hgr
      have HLA := Lib.hid hlater
      have HOL := Lib.hid (Own.lt hown)
      have hn := Lib.hid (fun w1 => nestedP_any t w1)
      have hsz : w.heap.size ≤ wr.heap.size := hgr.size
      simp only [Value.slice.injEq] at hv
      obtain ⟨rfl, -, rfl⟩ := hv
      generalize hss : (xs ++ S).length = sl at *
      have hsl : sl ≤ 1000000000 + S.length := by rw [← hss, List.length_append]; omega
      have HSL := Lib.hid hss
      clear hsum hS hS' hx1 hkk hle hbb HB HK hd hlen hown hbyt hrk hgr hlater hss HH HVV HOK
      have hki : (k : Int) < l.length := by omega
      -- the rest of a round, once the contents are known
      have fin : ∀ (S8 : World) (A8 : Option Addr) (c8 m : Nat) (cc : List Int), Byt cc → S' = S ++ (t % 256 :: (lenB m ++ cc)) → m = cc.length → S8.ownsRow base 5 1 (.slice A8 (sl + 1 + (lenB m).length + m) c8) (sl + 1 + (lenB m).length + m) ((xs ++ S).map (Value.int .u8) ++ [Value.int .u8 (t % 256)] ++ (lenB m).map (Value.int .u8) ++ cc.map (Value.int .u8)) →
          S8.ownsRow base 5 1 (.slice A8 (sl + 1 + (lenB m).length + m) c8) (xs ++ encS ek (l.take (k + 1))).length ((xs ++ encS ek (l.take (k + 1))).map (Value.int .u8)) ∧ Byt (xs ++ encS ek (l.take (k + 1))) := by
        intro S8 A8 c8 m cc hcc hS' hm h8
        have hl8 : sl + 1 + (lenB m).length + m = (xs ++ S').length := by
          have h5 := HSL.out
          rw [List.length_append] at h5
          rw [hS']
          simp only [List.length_append, List.length_cons]
          omega
        rw [HS2.out]
        refine ⟨?_, ?_⟩
        · rw [← hl8]
          have e : (xs ++ S').map (Value.int .u8) = (xs ++ S).map (Value.int .u8) ++ [Value.int .u8 (t % 256)] ++ (lenB m).map (Value.int .u8) ++ cc.map (Value.int .u8) := by
            rw [hS']; simp
          rw [e]; exact h8
        · rw [hS', ← List.append_assoc]
          refine HBY.out.append (fun y hy => ?_)
          rcases List.mem_cons.1 hy with hy | hy
          · subst hy; omega
          · exact (lenB_byt m).append hcc y hy
      have FIN := Lib.hid fin
      clear fin
      rcases hokk with ⟨hnt, rfl, hok1⟩ | ⟨hnt, rfl⟩
      · -- a constructed node
        have hcl := Lib.hid (hcall.out hok1)
        have hn2 := Lib.hid (fun w1 => hnt ▸ hn.out w1)
        generalize hz : ek ks = z at *
        simp only [List.length_nil, Nat.zero_add, List.nil_append] at *
        have HSZ : Hid (S' = S ++ (t % 256 :: (lenB z.length ++ z))) := HS.out
        clear hcall hok1 hn hnt hz HD HS
        generalize hmm : z.length = m at *
        have HM := Lib.hid hmm
        clear hmm
        have hlb := lenB_le m
        have hlt2 : w.heap.size ≤ wr.heap.size := hsz
        go_wp2_with (first
          | (go_at_call 83; refine (hn2.out _).mono ?_; rintro e w1 ⟨rfl, rfl⟩)
          | (go_at_call 68; refine (hcl.out _ _ (R.weak (R.ext HKK.out ((Ext.refl _).alloc _)) (fun _ _ h => by cases h))).mono ?_; rintro e w1 ⟨a1, c1, he, hg1, hr1⟩; rw [HM.out] at he hr1; subst he; have EX1 : Ext wr w1 := ((Ext.refl _).alloc _).trans (ext_of_grown hg1); have gb := (ext_of_grown hg1).cell (p := ⟨wr.heap.size, 0, none⟩) (v := .int .i64 t) (by simp); have HC := Lib.hid (hr1.weak (V' := Own u0) (fun g _ hg => Nat.lt_trans (HOL.out g hg) (by simp))))
          | (at_builtin; refine wpList_append_src _ rfl (.tmp 22) (.tmp 26) _ rfl base 5 i0 _ 1 1 Try.underlying25 hi0 hz0 hz1 hz2 rfl (by omega) _ sl _ rfl ((own_ext HO.out EX1).alloc _) _ 1 1 _ rfl (Src.lit _ #[_] _ 1 rfl (by simp [Value.oneCell'])) (by unfold maxLen; omega) (by omega) (Nat.le_trans hbase (Nat.le_trans (Nat.le_trans hsz EX1.size) (by simp))) ?_; intro A4 c4 w4 hown4 hg4 hat4; have hG4 := Lib.hid (grown_step (grown_thenExt HGR.out (EX1.alloc _)) HLA.out hg4); have hL4 := Lib.hid (HLA.out.next (Nat.le_trans (Nat.le_trans hsz EX1.size) (by simp)) hat4); have hC4 := Lib.hid ((HC.out.ext ((Ext.refl _).alloc _)).shift hg4 hat4); have hz4 := hg4.size)
          | (go_at_call 85; refine (lengthBytes_any m _).mono ?_; rintro e w5 ⟨a5, c5, rfl, he5, hr5⟩)
          | (at_builtin; refine wpList_append_src _ rfl (.tmp 28) (.tmp 31) _ rfl base 5 i0 _ 1 1 Try.underlying25 hi0 hz0 hz1 hz2 rfl (by omega) _ (sl + 1) _ rfl (own_ext hown4 he5) a5 (lenB m).length c5 _ rfl (Src.bytes (hr5 Any (fun _ h => h.elim))) (by unfold maxLen; omega) (by omega) (Nat.le_trans hbase (grown_thenExt hG4.out he5).size) ?_; intro A6 c6 w6 hown6 hg6 hat6; have hG6 := Lib.hid (grown_step (grown_thenExt hG4.out he5) hL4.out hg6); have hL6 := Lib.hid (hL4.out.next (grown_thenExt hG4.out he5).size hat6); have hC6 := Lib.hid ((hC4.out.ext he5).shift hg6 hat6))
          | (at_builtin; refine wpList_append_src _ rfl (.tmp 33) (.tmp 34) _ rfl base 5 i0 _ 1 1 Try.underlying25 hi0 hz0 hz1 hz2 rfl (by omega) _ (sl + 1 + (lenB m).length) _ rfl hown6 _ m _ _ rfl (Src.bytes hC6.out) (by unfold maxLen; omega) (by omega) (Nat.le_trans hbase hG6.out.size) ?_; intro A8 c8 w8 hown8 hg8 hat8; have hG8 := Lib.hid (grown_step hG6.out hL6.out hg8); have hL8 := Lib.hid (hL6.out.next hG6.out.size hat8)))
        obtain ⟨f1, f2⟩ := FIN.out w8 A8 c8 m z hC6.out.byt HSZ.out HM.out.symm hown8
        have F1 := Lib.hid f1
        have F2 := Lib.hid f2
        clear f1 f2
        go_roundw
        case rel => exact ⟨k + 1, by omega, by go_num, F1.out, F2.out, hG8.out, hL8.out⟩
        case measure => simp [intOf]; omega
      · -- a primitive node
        have hn2 := Lib.hid (fun w1 => hnt ▸ hn.out w1)
        rw [HEK.out] at b1
        simp only [List.length_nil, Nat.add_zero] at b1 g2
        have HSZ : Hid (S' = S ++ (t % 256 :: (lenB d.length ++ d))) := by
          have := HS.out
          rw [HEK.out] at this
          have h2 : S' = S ++ (t % 256 :: (lenB d.length ++ d)) := by simpa using this
          exact h2
        clear hcall hn hnt HS HKK
        generalize hmm : d.length = m at *
        have HM := Lib.hid hmm
        clear hmm
        have hlb := lenB_le m
        have EX1 : Ext wr (wr.alloc (.cells #[.int .i64 t, .slice da m dc, .slice ka 0 kc] 45)) := (Ext.refl _).alloc _
        have HC := Lib.hid (HD.out.ext EX1)
        go_wp2_with (first
          | (go_at_call 83; refine (hn2.out _).mono ?_; rintro e w1 ⟨rfl, rfl⟩)
          | (at_builtin; refine wpList_append_src _ rfl (.tmp 22) (.tmp 26) _ rfl base 5 i0 _ 1 1 Try.underlying25 hi0 hz0 hz1 hz2 rfl (by omega) _ sl _ rfl ((own_ext HO.out EX1).alloc _) _ 1 1 _ rfl (Src.litB _ #[.int .u8 (t % 256)] _ 1 _ (by simp) rfl (by simp [Value.oneCell'])) (by unfold maxLen; omega) (by omega) (Nat.le_trans hbase (Nat.le_trans (Nat.le_trans hsz EX1.size) (by simp))) ?_; intro A4 c4 w4 hown4 hg4 hat4; have hG4 := Lib.hid (grown_step (grown_thenExt HGR.out (EX1.alloc _)) HLA.out hg4); have hL4 := Lib.hid (HLA.out.next (Nat.le_trans (Nat.le_trans hsz EX1.size) (by simp)) hat4); have hC4 := Lib.hid ((HC.out.ext ((Ext.refl _).alloc _)).shift hg4 hat4); have hz4 := hg4.size)
          | (go_at_call 85; refine (lengthBytes_any m _).mono ?_; rintro e w5 ⟨a5, c5, rfl, he5, hr5⟩)
          | (at_builtin; refine wpList_append_src _ rfl (.tmp 28) (.tmp 31) _ rfl base 5 i0 _ 1 1 Try.underlying25 hi0 hz0 hz1 hz2 rfl (by omega) _ (sl + 1) _ rfl (own_ext hown4 he5) a5 (lenB m).length c5 _ rfl (Src.bytes (hr5 Any (fun _ h => h.elim))) (by unfold maxLen; omega) (by omega) (Nat.le_trans hbase (grown_thenExt hG4.out he5).size) ?_; intro A6 c6 w6 hown6 hg6 hat6; have hG6 := Lib.hid (grown_step (grown_thenExt hG4.out he5) hL4.out hg6); have hL6 := Lib.hid (hL4.out.next (grown_thenExt hG4.out he5).size hat6); have hC6 := Lib.hid ((hC4.out.ext he5).shift hg6 hat6))
          | (at_builtin; refine wpList_append_src _ rfl (.tmp 33) (.tmp 34) _ rfl base 5 i0 _ 1 1 Try.underlying25 hi0 hz0 hz1 hz2 rfl (by omega) _ (sl + 1 + (lenB m).length) _ rfl hown6 _ m _ _ rfl (Src.bytes hC6.out) (by unfold maxLen; omega) (by omega) (Nat.le_trans hbase hG6.out.size) ?_; intro A8 c8 w8 hown8 hg8 hat8; have hG8 := Lib.hid (grown_step hG6.out hL6.out hg8); have hL8 := Lib.hid (hL6.out.next hG6.out.size hat8)))
        obtain ⟨f1, f2⟩ := FIN.out w8 A8 c8 m d hC6.out.byt HSZ.out HM.out.symm hown8
        have F1 := Lib.hid f1
        have F2 := Lib.hid f2
        clear f1 f2
        go_roundw
        case rel => exact ⟨k + 1, by omega, by go_num, F1.out, F2.out, hG8.out, hL8.out⟩
        case measure => simp [intOf]; omega
    · have hl := take_all l k (by omega)
      rw [hl] at hown hbyt
      have HO2 := Lib.hid hown
      have HBY := Lib.hid hbyt
      have HGR := Lib.hid hgr
      generalize hss : (xs ++ encS ek l).length = sl at *
      have HSL := Lib.hid hss
      rcases hown.2 with ⟨rfl, hn0⟩ | ⟨g, cap, cur, rfl, hbg, hgg, hnc, hcm, -⟩
      · subst hn0
        clear hown hbyt hgr hlater hss
        go_wp2
        go_ret
        refine ⟨none, 0, by rw [HSL.out]; rfl, HGR.out, ?_⟩
        have h := RB.of_own (V := fun k => k < base) (bs := xs ++ encS ek l) (by rw [HSL.out]; exact HO2.out) HBY.out (fun k hk => hk)
        rw [HSL.out]
        exact h
      · have hm2 : sl ≤ 9223372036854775807 := by unfold maxLen at hcm; omega
        have hc0 : (0 : Int) ≤ sl := by omega
        have hc1 : (sl : Int) ≤ cap := by omega
        clear hown hbyt hgr hlater hss hgg hcm
        go_wp2
        go_ret
        refine ⟨some ⟨g, 0, none⟩, sl, by rw [HSL.out]; rfl, HGR.out, ?_⟩
        have h := (RB.of_own (V := fun k => k < base) (bs := xs ++ encS ek l) (by rw [HSL.out]; exact HO2.out) HBY.out (fun k hk => hk)).capcut
        rw [HSL.out]
        exact h
theorem write_any : ∀ (n : Nat) (l : List (Nd n)) (lv v : Value) (base : Nat) (xs : List Int) (w : World), (RkN n).rk (Own v) w lv l → w.ownsRow base 5 1 v xs.length (xs.map (Value.int .u8)) → base ≤ w.heap.size → Byt xs → okN n l →
    cntN n l ≤ 1000000000 → xs.length ≤ 1000000000 → Calls Try.prog 68 #[v, lv] w (RetW w base v (xs ++ encN n l))
  | 0, l, lv, v, base, xs, w, h, ho, hb, hx, _, _, hxl => by
    have hl := nd_zero l
    subst hl
    exact write_step (α := Empty) emptyRk (fun _ => True) (fun _ => []) [] lv v base xs w (rkn_zero h) ho hb hx (fun x hx => by cases hx) rfl (fun x hx => by cases hx) (by simp [encS]) hxl (by simp)
  | n + 1, l, lv, v, base, xs, w, h, ho, hb, hx, hok, hc, hxl => write_step (RkN n) (okN n) (encN n) l lv v base xs w h ho hb hx hok (encN_nil n) (fun x hx hok1 w1 kv hkv => write_any n x.2.2 kv (.slice none 0 0) w1.heap.size [] w1 hkv (World.ownsRow_nil _ _ _ _) (Nat.le_refl _) Byt.nil hok1 (by
      have h1 : cntS (cntN n) l ≤ 1000000000 := hc
      have h2 := sum_mem_le (fun x : NodeOf (Nd n) => x.2.1.length + cntN n x.2.2) l x hx
      unfold cntS at h1
      omega) (by simp)) (by have := szN_le (n + 1) l; have := encN_len (n + 1) l; show (encN (n + 1) l).length ≤ _; omega) hxl (by
      have h1 : cntS (cntN n) l ≤ 1000000000 := hc
      unfold cntS at h1
      omega)
end Go.Proofs.Ytjaofbfppnmdjaa
