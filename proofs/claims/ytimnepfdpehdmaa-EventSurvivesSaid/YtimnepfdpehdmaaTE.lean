/- Contracts of the leaves of layer 11: bytes of numbers, texts, times. -/
import Derived.Test.YtimnepfdpehdmaaChecked
import Derived.Test.YtimnepfdpehdmaaTA
import Derived.Test.YtimnepfdpehdmaaTB
import Derived.Lib.ConvBytes
import Derived.Deep.DeepCutAuto
import Derived.Test.YtimnepfdpehdmaaTD
namespace Go.Proofs.Ytimnepfdpehdmaa
open Go.RowKit
attribute [local go_sem ↓] Go.wp_at_zero Go.wp_at_succ

theorem make_bytes (k : Nat) (hk : k ≤ 1000000) : ∃ cur : Array Value, cur.size = k ∧ (∀ i : Nat, i < k → cur[i]? = some (.int .u8 0)) ∧ ∀ W : World, (Instr.makeSlice 51 (.int .i64 (k : Int)) (.int .i64 (k : Int))).run Try.prog W = .ok (.slice (some ⟨W.heap.size, 0, none⟩) k k) (W.alloc (.cells cur 5)) := by
  obtain ⟨i0, hi0, hz0, hz1, hz2⟩ := info_parts info_byte
  refine ⟨madeCells (Value.int .u8 0).cells (k * 1), by rw [size_madeCells]; omega, fun i hi => ?_, fun W => ?_⟩
  · rw [Nat.mul_one, show (Value.int .u8 0).cells = #[Value.int .u8 0] from rfl, ← Array.getElem?_toList, toList_madeCells_one]
    simp [hi]
  · have := run_make (P := Try.prog) W 51 5 i0 _ Try.underlying51 hi0 hz0 .i64 .i64 k k (by omega) (Int.le_refl _) (by rw [hz2]; omega) (by omega)
    simp only [Int.toNat_natCast, hz1] at this
    exact this
/-- It returns a new row of bytes, its own. -/
def RetO (w : World) (bs : List Int) (e : Ending) (w' : World) : Prop := ∃ a c, e = .returned (.slice a bs.length c) ∧ Ext w w' ∧ w'.ownsRow w.heap.size 5 1 (.slice a bs.length c) bs.length (bs.map (Value.int .u8))
theorem RetO.toB {w w' : World} {bs : List Int} {e : Ending} (hb : Byt bs) (h : RetO w bs e w') : RetB w bs e w' := by
  obtain ⟨a, c, he, hx, ho⟩ := h
  exact ⟨a, c, he, hx, fun V hV => RB.of_own ho hb hV⟩
theorem own_base {w : World} {base base' : Nat} {e : TypeId} {size : Nat} {v : Value} {n : Nat} {xs : List Value} (h : w.ownsRow base e size v n xs) (hb : base' ≤ base) : w.ownsRow base' e size v n xs := by
  refine ⟨h.1, ?_⟩
  rcases h.2 with hn | ⟨g, cap, cur, rfl, hg, rest⟩
  · exact .inl hn
  · exact .inr ⟨g, cap, cur, rfl, by omega, rest⟩
theorem RetO.of_blk {w w' : World} {bs : List Int} {cs : Array Value} (h : Bk w' w.heap.size 5 cs) (hs : cs.size = bs.length) (hc : ∀ i : Nat, i < bs.length → cs[i]? = some (.int .u8 (bs.getD i 0))) (hm : bs.length ≤ 65536) (he : Ext w w') :
    RetO w bs (.returned (.slice (some ⟨w.heap.size, 0, none⟩) bs.length bs.length)) w' := by
  refine ⟨_, _, rfl, he, by simp, .inr ⟨w.heap.size, bs.length, cs, rfl, Nat.le_refl _, h, Nat.le_refl _, by unfold maxLen; omega, by omega, ?_⟩⟩
  rw [List.take_of_length_le (by simp [hs])]
  apply List.ext_getElem (by simp [hs])
  intro i h1 h2
  have h3 : i < bs.length := by simpa using h2
  have := hc i h3
  rw [Array.getElem?_eq_getElem (by omega)] at this
  injection this with this
  simp [this, h3]
set_option maxHeartbeats 2000000 in
theorem numberP_own (n : Int) (k : Nat) (w : World) (hk1 : 1 ≤ k) (hk : k ≤ 8) : Calls Try.prog 102 #[.int .i64 n, .int .i64 k] w (RetO w (numB n k)) := by
  obtain ⟨cur, hcs, hc0, hmk⟩ := make_bytes k (by omega)
  have HCS := Lib.hid hcs
  clear hcs hc0
  go_enter Try.func102, Try.ntmps102
  go_wp2
  have HB := Lib.hid (Bk.new w cur 5 w.heap.size rfl)
  have HX := Lib.hid ((Ext.refl w).alloc (.cells cur 5))
  generalize w.alloc (.cells cur 5) = W at *
  clear hmk
  go_loopw [6, 11] (fun _ i wr => ∃ (j : Nat) (cs : Array Value), j ≤ k ∧ i = .int .i64 j ∧ Bk wr w.heap.size 5 cs ∧ cs.size = k ∧ (∀ q : Nat, q < j → cs[q]? = some (.int .u8 ((numB n k).getD q 0))) ∧ Ext w wr) (fun _ i _ => k - (intOf i).toNat)
  case atStart => exact ⟨0, cur, by omega, rfl, HB.out, HCS.out, fun q h => by omega, HX.out⟩
  case round =>
    obtain ⟨j, cs, hj, rfl, hbk, hsz, hall, hx⟩ := hrel
    by_cases hlt : j < k
    · have hji : (j : Int) < k := by omega
      have hj0 : (0 : Int) ≤ (j : Int) := by omega
      obtain ⟨x0, hx0⟩ : ∃ x0, cs[j]? = some x0 := ⟨_, Array.getElem?_eq_getElem (by omega)⟩
      have q0 : wr.cell? ⟨w.heap.size, j, none⟩ = some x0 := (hbk.cell j).trans hx0
      clear hx0
      have f0 := hbk.frozen j
      have HBK := Lib.hid hbk
      have HSZ := Lib.hid hsz
      have HALL := Lib.hid hall
      have ht : (8 * ((k : Int) - 1 - j)).toNat = 8 * (k - 1 - j) := by omega
      clear hbk hsz hall
      go_wp2
      go_roundw
      case rel =>
        refine ⟨j + 1, cs.setIfInBounds j (.int .u8 (n / 2 ^ (8 * (k - 1 - j)) % 256)), by omega, by go_num, HBK.out.setCell j _, by simp [HSZ.out], fun q hq => ?_, hx.setCell (Nat.le_refl _) _⟩
        by_cases hqj : q = j
        · subst hqj
          rw [Array.getElem?_setIfInBounds_self_of_lt (by rw [HSZ.out]; exact hlt), List.getD_eq_getElem?_getD, numB_get n k q hlt]
          rfl
        · rw [Array.getElem?_setIfInBounds_ne (Ne.symm hqj)]
          exact HALL.out q (by omega)
      case measure => simp [intOf]; omega
    · have hji : ¬ (j : Int) < k := by omega
      have hjk : j = k := by omega
      have HF := Lib.hid (RetO.of_blk (w := w) (bs := numB n k) hbk (by rw [numB_len]; exact hsz) (fun q hq => hall q (by rw [numB_len] at hq; omega)) (by rw [numB_len]; omega) hx)
      rw [numB_len] at HF
      clear hbk hsz hall
      go_wp2
      go_ret
      exact HF.out
theorem numberP_any (n : Int) (k : Nat) (w : World) (hk1 : 1 ≤ k) (hk : k ≤ 8) : Calls Try.prog 102 #[.int .i64 n, .int .i64 k] w (RetB w (numB n k)) :=
  (numberP_own n k w hk1 hk).mono fun _ _ h => h.toB (numB_byt n k)
theorem numB_one (n : Int) : numB n 1 = [n % 256] := by simp [numB]
theorem take_snocB {bs : List Int} {j : Nat} {x : Int} (h : bs[j]? = some x) : bs.take (j + 1) = bs.take j ++ [x] := by
  rw [List.take_add_one, h]; rfl
set_option maxRecDepth 100000 in
set_option maxHeartbeats 2000000 in
theorem dataWhole_any (n : Int) (w : World) : Calls Try.prog 100 #[.int .i64 n] w (RetB w (numB n (intLen n))) := by
  have HN := Lib.hid (fun w1 => numberP_any n (intLen n) w1 (intLen_le n).1 (intLen_le n).2)
  go_enter Try.func100, Try.ntmps100
  go_wp2
  go_loop [3] (fun i => ∃ k : Nat, 1 ≤ k ∧ k ≤ 8 ∧ i = .int .i64 k ∧ intLenF n (8 - k) k = intLen n) (fun i => 8 - (intOf i).toNat)
  case atStart => exact ⟨1, by omega, by omega, rfl, rfl⟩
  case round =>
    obtain ⟨k, hk1, hk2, rfl, hlen⟩ := hrel
    have ht : (8 * (k : Int) - 1).toNat = 8 * k - 1 := by omega
    by_cases hlt : k < 8
    · have hki : (k : Int) < 8 := by omega
      cases hw : wider n k
      · rw [intLenF_no n k hw] at hlen
        have HN2 := Lib.hid HN.out
        rw [← hlen] at HN2
        unfold wider at hw
        have hway : ((n / 2 ^ (8 * k - 1) != 0) = false) ∨ ((n / 2 ^ (8 * k - 1) != 0) = true ∧ (n / 2 ^ (8 * k - 1) != -1) = false) := by
          cases h1 : (n / 2 ^ (8 * k - 1) != 0)
          · exact .inl rfl
          · rw [h1] at hw
            exact .inr ⟨rfl, by simpa using hw⟩
        have HL := Lib.hid hlen
        clear hw hlen HN
        rcases hway with h1 | ⟨h1, h2⟩
        all_goals
          go_wp2_with (go_at_call 102; (with_reducible refine (HN2.out _).mono ?_); rintro e w1 ⟨a1, c1, he, x1, r1⟩; rw [numB_len] at he r1; subst he)
          go_ret
          rw [← HL.out]
          exact ⟨a1, c1, by rw [numB_len]; rfl, x1, by rw [numB_len]; exact r1⟩
      · have HL : Hid (intLenF n (8 - (k + 1)) (k + 1) = intLen n) := (intLenF_yes n k hlt hw).symm.trans hlen
        unfold wider at hw
        rw [Bool.and_eq_true] at hw
        obtain ⟨h1, h2⟩ := hw
        clear hlen
        go_wp2
        go_round
        case rel => exact ⟨k + 1, by omega, by omega, by go_num, HL.out⟩
        case measure => simp [intOf]; omega
    · have hki : ¬ (k : Int) < 8 := by omega
      have hl8 : k = intLen n := by
        rw [show 8 - k = 0 by omega] at hlen
        exact hlen
      have HN2 := Lib.hid HN.out
      rw [← hl8] at HN2
      have HL := Lib.hid hl8
      clear hl8 hlen HN
      go_wp2_with (go_at_call 102; (with_reducible refine (HN2.out _).mono ?_); rintro e w1 ⟨a1, c1, he, x1, r1⟩; rw [numB_len] at he r1; subst he)
      go_ret
      rw [← HL.out]
      exact ⟨a1, c1, by rw [numB_len]; rfl, x1, by rw [numB_len]; exact r1⟩
theorem dataTruth_any (n : Int) (w : World) : Calls Try.prog 97 #[.int .i64 n] w (RetB w (numB n 1)) := by
  have HF := Lib.hid (RetB.lit (w := w) (t := 5) (numB n 1) #[.int .u8 (n % 256)] 1 (by rw [numB_len]) (by rw [numB_one]; rfl) (numB_byt n 1) (by rw [numB_len]; omega))
  go_enter Try.func97, Try.ntmps97
  go_wp2
  go_ret
  exact HF.out
theorem tagTruth_any (x : Value) (w : World) : Calls Try.prog 98 #[x] w fun e w' => e = .returned (.int .i64 131) ∧ w = w' := by
  go_enter Try.func98, Try.ntmps98
  go_wp2
  go_ret
  exact ⟨rfl, rfl⟩
theorem tagWhole_any (x : Value) (w : World) : Calls Try.prog 101 #[x] w fun e w' => e = .returned (.int .i64 133) ∧ w = w' := by
  go_enter Try.func101, Try.ntmps101
  go_wp2
  go_ret
  exact ⟨rfl, rfl⟩
theorem tagBits_any (x : Value) (w : World) : Calls Try.prog 105 #[x] w fun e w' => e = .returned (.int .i64 132) ∧ w = w' := by
  go_enter Try.func105, Try.ntmps105
  go_wp2
  go_ret
  exact ⟨rfl, rfl⟩
theorem tagText_any (x : Value) (w : World) : Calls Try.prog 108 #[x] w fun e w' => e = .returned (.int .i64 138) ∧ w = w' := by
  go_enter Try.func108, Try.ntmps108
  go_wp2
  go_ret
  exact ⟨rfl, rfl⟩
theorem tagMoment_any (x y z : Value) (w : World) : Calls Try.prog 111 #[.agg #[x, y, z]] w fun e w' => e = .returned (.int .i64 145) ∧ Ext w w' := by
  go_enter Try.func111, Try.ntmps111
  go_wp2
  go_ret
  exact ⟨rfl, by repeat first | exact Ext.refl _ | apply Ext.alloc⟩
theorem below_bytes {w : World} {e : TypeId} {s : ByteArray} : Ext w (Lib.bytesWorld w e s) :=
  ⟨rfl, rfl, rfl, by rw [Lib.bytesWorld_size]; omega, fun k hk => Lib.bytesWorld_at_old w e s k hk⟩
theorem RetB.of_str {w : World} {s : ByteArray} (hs : s.size ≤ 65536) : RetB w (strB s) (.returned (.slice (some ⟨w.heap.size, 0, none⟩) s.size (grownCap w s.size 0 5))) (Lib.bytesWorld w 5 s) := by
  refine ⟨_, _, by rw [strB_len], below_bytes, fun V hV => ⟨strB_byt s, _, _, rfl, ?_, ?_, fun _ => ⟨w.heap.size, 0, rfl, fun h => by have := hV _ h; omega, fun j hj => ?_⟩⟩⟩
  · rw [strB_len]; exact grownCap_ge _ _ _ _
  · exact grownCap_le_maxLen _ _ _ _ (by unfold maxLen; omega)
  · rw [strB_len] at hj
    rw [Nat.zero_add, Lib.bytesWorld_cell w 5 s j hj]
    simp only [strB, List.getElem_map, List.getD_eq_getElem?_getD]
    rw [List.getElem?_eq_getElem (by simpa using hj)]
    rfl
theorem dataText_any (s : ByteArray) (w : World) (hs : s.size ≤ 65536) : Calls Try.prog 107 #[.string s] w (RetB w (strB s)) := by
  have HF := Lib.hid (RetB.of_str (w := w) hs)
  have hcv := fun W => Lib.run_convert_string_bytes (P := Try.prog) W 151 51 5 s Try.underlying151 Try.underlying51 Try.underlying5
  clear hs
  go_enter Try.func107, Try.ntmps107
  go_wp2
  go_ret
  exact HF.out
set_option maxRecDepth 100000 in
set_option maxHeartbeats 2000000 in
theorem dataMoment_any (a b c : Int) (w : World) : Calls Try.prog 110 #[.agg #[.int .i64 a, .int .i64 b, .int .i64 c]] w (RetB w (numB a 4 ++ numB b 3 ++ numB c 1)) := by
  obtain ⟨i0, hi0, hz0, hz1, hz2⟩ := info_parts info_byte
  have H4 := Lib.hid (fun w1 => numberP_own a 4 w1 (by omega) (by omega))
  have H3 := Lib.hid (fun w1 => numberP_own b 3 w1 (by omega) (by omega))
  have e4 := numB_len a 4
  have e3 := numB_len b 3
  have HF : Hid (∀ w' A c1, w'.ownsRow w.heap.size 5 1 (.slice A 8 c1) 8 ((numB a 4).map (Value.int .u8) ++ (numB b 3).map (Value.int .u8) ++ [.int .u8 (c % 256)]) → Ext w w' → RetB w (numB a 4 ++ numB b 3 ++ numB c 1) (.returned (.slice A 8 c1)) w') := fun w' A c1 ho he => by
    have hl : (numB a 4 ++ numB b 3 ++ numB c 1).length = 8 := by simp [numB_len]
    refine RetO.toB (Byt.append (Byt.append (numB_byt _ _) (numB_byt _ _)) (numB_byt _ _)) ⟨A, c1, by rw [hl], he, ?_⟩
    rw [hl, List.map_append, List.map_append, numB_one]
    exact ho
  have HY := Lib.hid (numB_byt b 3)
  generalize numB a 4 ++ numB b 3 ++ numB c 1 = zs at *
  generalize numB a 4 = xs at *
  generalize numB b 3 = ys at *
  have E4 := Lib.hid e4
  have E3 := Lib.hid e3
  clear e4 e3
  go_enter Try.func110, Try.ntmps110
  go_wp2_with fail
  refine (H4.out _).mono ?_
  rintro e w1 ⟨a1, c1, he, x1, o1⟩
  rw [E4.out] at he o1
  subst he
  have X1 : Ext w w1 := ((Ext.refl w).alloc _).trans x1
  have B1 := (Bk.new w #[.int .i64 a, .int .i64 b, .int .i64 c] 152 w.heap.size rfl).ext x1
  have q1 := B1.cell
  go_wp2_with fail
  refine (H3.out _).mono ?_
  rintro e w2 ⟨a2, c2, he, x2, o2⟩
  rw [E3.out] at he o2
  subst he
  have o12 := own_base (own_ext o1 x2) (base' := w.heap.size) (by simp)
  have hsrc : Src w2 1 a2 3 (ys.map (Value.int .u8)) := Src.bytes (V := Any) (RB.of_own (V := Any) (bs := ys) (by rw [E3.out]; exact o2) HY.out (fun _ h => h.elim))
  have X2 := X1.trans x2
  have B2 := Lib.hid (B1.ext x2)
  have HLB : Hid (∀ g, (Value.slice a1 4 c1).ownBlock = some g → w.heap.size < g) := fun g hg => by have := (o1.lt g hg).1; simp at this; omega
  clear q1 B1 o1 o2 x1 x2
  go_upto_region 3 with ((at_builtin; refine wpList_append_src _ rfl (.tmp 7) (.tmp 10) _ rfl w.heap.size 5 i0 _ 1 1 Try.underlying51 hi0 hz0 hz1 hz2 rfl (by omega) _ 4 _ rfl o12 _ 3 c2 _ rfl hsrc (by unfold maxLen; omega) (by omega) X2.size ?_; intro A3 c3 w3 hown3 hg3 hat3))
  have B3 : Bk w3 w.heap.size 152 #[.int .i64 a, .int .i64 b, .int .i64 c] := B2.out.agree (V := fun k => (Value.slice a1 4 c1).ownBlock = some k) (Agree.of_grown hg3 (fun k hk => hk)) (fun h => by have := HLB.out _ h; omega)
  have q3 := B3.cell
  have X3 : Ext w w3 := X2.grown hg3 (fun g hg => (o12.lt g hg).1)
  have O3 := Lib.hid hown3
  clear hown3 hg3 hat3 hsrc o12 X2 X1
  go_wp2_with (at_builtin; refine wpList_append_src _ rfl (.tmp 12) (.tmp 16) _ rfl w.heap.size 5 i0 _ 1 1 Try.underlying51 hi0 hz0 hz1 hz2 rfl (by omega) _ 7 _ rfl (O3.out.alloc _) _ 1 1 [.int .u8 (c % 256)] rfl (Src.litB _ #[.int .u8 (c % 256)] 5 1 _ (by simp) rfl (by simp [Value.oneCell'])) (by unfold maxLen; omega) (by omega) (by simp; exact Nat.le_succ_of_le X3.size) ?_; intro A4 c4 w4 hown4 hg4 hat4)
  have X4 : Ext w w4 := (X3.alloc _).grown hg4 (fun g hg => (O3.out.lt g hg).1)
  go_ret
  exact HF.out w4 _ _ hown4 X4
end Go.Proofs.Ytimnepfdpehdmaa

namespace Go.Proofs.Ytimnepfdpehdmaa
open Go.RowKit
attribute [local go_sem ↓] Go.wp_at_zero Go.wp_at_succ

theorem byte_at (s : ByteArray) (k : Nat) (h : k < s.size) : s.data.toList.getD k 0 = s[k] := by
  rw [List.getD_eq_getElem?_getD, List.getElem?_eq_getElem (by simpa using h)]
  rfl
theorem bitV_yes (s : ByteArray) (k : Nat) (h : k < s.size) (hb : s[k].toNat = 49) (j : Nat) : bitV s (k + 1) j = if k / 8 = j then orB (bitV s k j) k else bitV s k j := by
  have h1 : s.data.toList.getD k 0 = 49 := by rw [byte_at s k h]; exact UInt8.toNat_inj.1 hb
  simp only [bitV, h1, and_true]
theorem bitV_no (s : ByteArray) (k : Nat) (h : k < s.size) (hb : s[k].toNat ≠ 49) (j : Nat) : bitV s (k + 1) j = bitV s k j := by
  have h1 : ¬ s.data.toList.getD k 0 = 49 := by rw [byte_at s k h]; intro e; exact hb (by rw [e]; rfl)
  simp only [bitV, h1, and_false, if_false]
/-- The bytes of a bit string, of which the first k bits are laid. -/
def bitL (s : ByteArray) (k : Nat) (i : Nat) : Int := if i = 0 then (padB s.size : Int) else bitV s k (i - 1)
theorem bitsB_len (s : ByteArray) : (bitsB s).length = 1 + (s.size + 7) / 8 := by simp [bitsB]; omega
theorem bitsB_get (s : ByteArray) (i : Nat) (h : i < 1 + (s.size + 7) / 8) : (bitsB s).getD i 0 = bitL s s.size i := by
  unfold bitL bitsB
  cases i with
  | zero => simp
  | succ i => simp [List.getD_eq_getElem?_getD, show i < (s.size + 7) / 8 by omega]
theorem bitsB_byt (s : ByteArray) : Byt (bitsB s) := fun x hx => by
  simp only [bitsB, List.mem_cons, List.mem_map] at hx
  rcases hx with rfl | ⟨j, _, rfl⟩
  · have := padB_le s.size; omega
  · exact bitV_le s _ _
set_option maxRecDepth 100000 in
set_option maxHeartbeats 4000000 in
theorem dataBits_any (s : ByteArray) (w : World) (hs : s.size ≤ 64) : Calls Try.prog 104 #[.string s] w (RetB w (bitsB s)) := by
  obtain ⟨nb, hnb⟩ : ∃ nb, (s.size + 7) / 8 = nb := ⟨_, rfl⟩
  obtain ⟨cur, hcs, hc0, hmk⟩ := make_bytes (1 + nb) (by omega)
  have hl : (bitsB s).length = 1 + nb := by rw [bitsB_len, hnb]
  have HL := Lib.hid hl
  have HG := Lib.hid (fun i (h : i < 1 + nb) => bitsB_get s i (by rw [hnb]; exact h))
  have HBY := Lib.hid (bitsB_byt s)
  have HP : Hid ((padB s.size : Int) = 8 * nb - s.size) := by show (padB s.size : Int) = _; unfold padB; omega
  have hpl := padB_le s.size
  have hn8 : ((s.size : Int) + 7) / 8 = nb := by omega
  have hb8 : nb ≤ 8 := by omega
  have hbs : 8 * nb ≤ s.size + 7 ∧ s.size ≤ 8 * nb := by omega
  obtain ⟨hbs1, hbs2⟩ := hbs
  have HCS := Lib.hid hcs
  have HC0 := Lib.hid hc0
  have hc00 := hc0 0 (by omega)
  have hcz : 0 < cur.size := by omega
  have hm1 : ∀ W : World, (Instr.makeSlice 51 (.int .i64 (1 + (nb : Int))) (.int .i64 (1 + (nb : Int)))).run Try.prog W = .ok (.slice (some ⟨W.heap.size, 0, none⟩) (1 + nb) (1 + nb)) (W.alloc (.cells cur 5)) := fun W => by
    have := hmk W
    rw [show ((1 + nb : Nat) : Int) = 1 + (nb : Int) by omega] at this
    exact this
  have HNB := Lib.hid hnb
  clear hcs hc0 hl hmk hnb
  go_enter Try.func104, Try.ntmps104
  go_wp2
  have HB := Lib.hid (Bk.new w (cur.setIfInBounds 0 (.int .u8 (8 * (nb : Int) - s.size))) 5 w.heap.size rfl)
  have HX := Lib.hid ((Ext.refl w).alloc (.cells (cur.setIfInBounds 0 (.int .u8 (8 * (nb : Int) - s.size))) 5))
  generalize w.alloc (.cells (cur.setIfInBounds 0 (.int .u8 (8 * (nb : Int) - s.size))) 5) = W at *
  clear hm1 hn8
  go_loopw [5, 23] (fun _ i wr => ∃ (k : Nat) (cs : Array Value), k ≤ s.size ∧ i = .int .i64 k ∧ Bk wr w.heap.size 5 cs ∧ cs.size = 1 + nb ∧ (∀ q : Nat, q < 1 + nb → cs[q]? = some (.int .u8 (bitL s k q))) ∧ Ext w wr) (fun _ i _ => s.size - (intOf i).toNat)
  case atStart =>
    refine ⟨0, _, by omega, rfl, HB.out, by simp [HCS.out], fun q hq => ?_, HX.out⟩
    cases q with
    | zero =>
      rw [Array.getElem?_setIfInBounds_self_of_lt (by rw [HCS.out]; omega)]
      unfold bitL
      rw [if_pos rfl, HP.out]
    | succ q =>
      rw [Array.getElem?_setIfInBounds_ne (by omega), HC0.out (q + 1) hq]
      unfold bitL
      rw [if_neg (by omega)]
      rfl
  case round =>
    obtain ⟨k, cs, hk, rfl, hbk, hsz, hall, hx⟩ := hrel
    by_cases hlt : k < s.size
    · have hki : (k : Int) < s.size := by omega
      by_cases hb : s[k].toNat = 49
      · have HV := Lib.hid (bitV_yes s k hlt hb)
        have hbe : ((s[k].toNat : Int) == 49) = true := by simp only [beq_iff_eq]; omega
        have h1 : (k : Int) / 8 < nb := by omega
        have h2 : (0 : Int) ≤ (k : Int) / 8 := by omega
        have h3 : (1 + (k : Int) / 8).toNat = 1 + k / 8 := by omega
        have h4 : ((k : Int) % 8).toNat = k % 8 := by omega
        have h5 : (1 + (k : Int) / 8) < ((1 + nb : Nat) : Int) := by omega
        have h6 : (0 : Int) ≤ 1 + (k : Int) / 8 := by omega
        have q0 : wr.cell? ⟨w.heap.size, 1 + k / 8, none⟩ = some (.int .u8 (bitV s k (k / 8))) := (hbk.cell _).trans ((hall (1 + k / 8) (by omega)).trans (by unfold bitL; rw [if_neg (by omega), show 1 + k / 8 - 1 = k / 8 by omega]))
        have f0 := hbk.frozen (1 + k / 8)
        have e1 : IntKind.i64.wrap ((k : Int) / 8) = (k : Int) / 8 := IntWalk.i64_in _ (by omega)
        have e2 : IntKind.i64.wrap (1 + (k : Int) / 8) = 1 + (k : Int) / 8 := IntWalk.i64_in _ (by omega)
        have e3 : IntKind.i64.wrap ((k : Int) % 8) = (k : Int) % 8 := IntWalk.i64_in _ (by omega)
        have e4 : (k : Int).tmod 8 = (k : Int) % 8 := Int.tmod_eq_emod_of_nonneg (by omega)
        have h7 : (0 : Int) ≤ (k : Int) % 8 := by omega
        have h8 : (k : Int) % 8 ≤ 8 := by omega
        have HBK := Lib.hid hbk
        have HSZ := Lib.hid hsz
        have HALL := Lib.hid hall
        have HXX := Lib.hid hx
        clear hbk hsz hall hb hx
        go_upto_region 8 with fail
        refine wp_region_callN 11 (by kernel_rfl) (by kernel_rfl) ?_
        simp only [List.take_succ_cons, List.take_zero, List.drop_succ_cons, List.drop_zero]
        repeat still_step
        refine wpStill_nil ?_
        go_wp2_with fail
        refine NoPanic.normal ?_
        clear e1 e2 e3 e4
        go_wp2_with fail
        go_roundw
        case rel =>
          refine ⟨k + 1, cs.setIfInBounds (1 + k / 8) (.int .u8 (orB (bitV s k (k / 8)) k)), by omega, by go_num, HBK.out.drew.setCell _ _, by simp [HSZ.out], fun q hq => ?_, HXX.out.drew.setCell (Nat.le_refl _) _⟩
          by_cases hqj : q = 1 + k / 8
          · subst hqj
            rw [Array.getElem?_setIfInBounds_self_of_lt (by rw [HSZ.out]; exact hq)]
            unfold bitL
            rw [if_neg (by omega), show 1 + k / 8 - 1 = k / 8 by omega, HV.out (k / 8), if_pos rfl]
          · rw [Array.getElem?_setIfInBounds_ne (Ne.symm hqj), HALL.out q hq]
            unfold bitL
            by_cases hq0 : q = 0
            · rw [if_pos hq0, if_pos hq0]
            · rw [if_neg hq0, if_neg hq0, HV.out (q - 1), if_neg (by omega)]
        case measure => simp [intOf]; omega
      · have HV := Lib.hid (bitV_no s k hlt hb)
        have hbe : ((s[k].toNat : Int) == 49) = false := by simp only [beq_eq_false_iff_ne, ne_eq]; omega
        have HBK := Lib.hid hbk
        have HSZ := Lib.hid hsz
        have HALL := Lib.hid hall
        have HXX := Lib.hid hx
        clear hbk hsz hall hb hx
        go_wp2
        go_roundw
        case rel =>
          refine ⟨k + 1, cs, by omega, by go_num, HBK.out, HSZ.out, fun q hq => ?_, HXX.out⟩
          rw [HALL.out q hq]
          unfold bitL
          rw [HV.out]
        case measure => simp [intOf]; omega
    · have hki : ¬ (k : Int) < s.size := by omega
      obtain rfl : k = s.size := by omega
      have HF := Lib.hid (RetO.of_blk (w := w) (bs := bitsB s) hbk (by rw [HL.out]; exact hsz) (fun q hq => by rw [HL.out] at hq; rw [hall q hq, HG.out q hq]) (by rw [HL.out]; omega) hx)
      have HF2 := Lib.hid (HF.out.toB HBY.out)
      rw [HL.out] at HF2
      clear hbk hsz hall HF
      go_wp2
      go_ret
      exact HF2.out
theorem bitV_zero (s : ByteArray) : ∀ k j, k ≤ 8 * j → bitV s k j = 0
  | 0, _, _ => rfl
  | k + 1, j, h => by
    simp only [bitV]
    rw [if_neg (by intro h2; omega)]
    exact bitV_zero s k j (by omega)
def rowL (s : ByteArray) (k n : Nat) : List Value := (List.range n).map fun i => Value.int .u8 (bitL s k i)
theorem rowL_snoc (s : ByteArray) (k n : Nat) : rowL s k (n + 1) = rowL s k n ++ [.int .u8 (bitL s k n)] := by
  unfold rowL; rw [List.range_succ, List.map_append]; rfl
theorem rowL_get (s : ByteArray) (k n i : Nat) (h : i < n) : (rowL s k n)[i]? = some (.int .u8 (bitL s k i)) := by
  simp [rowL, h]
theorem rowL_end (s : ByteArray) : rowL s s.size (1 + (s.size + 7) / 8) = (bitsB s).map (Value.int .u8) := by
  apply List.ext_getElem (by simp [rowL, bitsB_len])
  intro i h1 h2
  have h3 : i < 1 + (s.size + 7) / 8 := by simpa [rowL] using h1
  have h4 : i < (bitsB s).length := by rw [bitsB_len]; exact h3
  have := bitsB_get s i h3
  rw [List.getD_eq_getElem?_getD, List.getElem?_eq_getElem h4] at this
  simp only [Option.getD_some] at this
  simp [rowL, this]
theorem rowL_no (s : ByteArray) (k n : Nat) (h : ∀ j, bitV s (k + 1) j = bitV s k j) : rowL s (k + 1) n = rowL s k n := by
  unfold rowL bitL
  simp only [h]
theorem rowL_yes (s : ByteArray) (k : Nat) (h : ∀ j, bitV s (k + 1) j = if k / 8 = j then orB (bitV s k j) k else bitV s k j) : rowL s (k + 1) (k / 8 + 2) = (rowL s k (k / 8 + 2)).set (k / 8 + 1) (.int .u8 (orB (bitV s k (k / 8)) k)) := by
  apply List.ext_getElem (by simp [rowL])
  intro i h1 h2
  have h3 : i < k / 8 + 2 := by simpa [rowL] using h1
  rw [List.getElem_set]
  simp only [rowL, List.getElem_map, List.getElem_range]
  by_cases hi : k / 8 + 1 = i
  · rw [if_pos hi]
    subst hi
    unfold bitL
    rw [if_neg (by omega), show k / 8 + 1 - 1 = k / 8 by omega, h, if_pos rfl]
  · rw [if_neg hi]
    unfold bitL
    by_cases h0 : i = 0
    · rw [if_pos h0, if_pos h0]
    · rw [if_neg h0, if_neg h0, h, if_neg (by omega)]
theorem own_at {w : World} {base : Nat} {e : TypeId} {v : Value} {n : Nat} {xs : List Value} (h : w.ownsRow base e 1 v n xs) (hn : 0 < n) : ∃ g c, v = .slice (some ⟨g, 0, none⟩) n c ∧ n ≤ c ∧ base ≤ g := by
  rcases h.2 with ⟨rfl, h0⟩ | ⟨g, cap, cur, rfl, hb, _, hc, _⟩
  · omega
  · exact ⟨g, cap, rfl, hc, hb⟩
theorem shl_or : ∀ r : Fin 8, (2 : Int) ^ (7 - r.1) % 256 = 128 / 2 ^ r.1 := by decide
end Go.Proofs.Ytimnepfdpehdmaa

namespace Go.Proofs.Ytimnepfdpehdmaa
open Go.RowKit
attribute [local go_sem ↓] Go.wp_at_zero Go.wp_at_succ

/-- The node of a value. -/
def nodeV (m : Nat) (v : Val) : NodeOf (Nd m) := (tagV v, datV v, [])
def RetNE (m : Nat) (w : World) (l : List Val) (e : Ending) (w' : World) : Prop :=
  (vErr l ≠ 0 ∧ e = .returned (.tuple #[.slice none 0 0, .int .i64 (vErr l)]) ∧ Ext w w') ∨ (vErr l = 0 ∧ ∃ a c, e = .returned (.tuple #[.slice a l.length c, .int .i64 0]) ∧ Ext w w' ∧ (nodesRk (RkN m)).rk (Old w) w' (.slice a l.length c) (l.map (nodeV m)))
/-- The same, with the row that is owned. -/
def RetNB (m : Nat) (w : World) (l : List Val) (e : Ending) (w' : World) : Prop :=
  (vErr l ≠ 0 ∧ e = .returned (.tuple #[.slice none 0 0, .int .i64 (vErr l)]) ∧ Ext w w') ∨ (vErr l = 0 ∧ ∃ a c, e = .returned (.tuple #[.slice a l.length c, .int .i64 0]) ∧ Ext w w' ∧ Built (RkN m) (Old w) w.heap.size 95 w' (.slice a l.length c) (l.map (nodeV m)))
theorem info_nodeP : (Try.prog.info? 95).map (fun i => (i.zero, i.size, i.bytes)) = some (some (.agg #[.int .i64 0, .slice none 0 0, .slice none 0 0]), 3, 56) := by kernel_rfl
theorem chk_kind {v : Val} (h : chk v = 0) : isKind v = true := by
  unfold chk at h
  simp only [isKind, Bool.and_eq_true, decide_eq_true_eq]
  by_cases h1 : v.kind = 1
  · omega
  by_cases h2 : v.kind = 2
  · omega
  by_cases h3 : v.kind = 3
  · omega
  by_cases h4 : v.kind = 4
  · omega
  by_cases h5 : v.kind = 5
  · omega
  rw [if_neg h1, if_neg h2, if_neg h3, if_neg h4, if_neg h5] at h
  omega
theorem chk_size {v : Val} (h : chk v = 0) : (v.kind = 3 → v.s.size ≤ 64) ∧ (v.kind = 4 → v.s.size ≤ 64) := by
  unfold chk at h
  constructor
  · intro h3
    rw [if_neg (by omega), if_neg (by omega), if_pos h3] at h
    split at h
    · unfold bitErr at h
      split at h
      · omega
      · omega
    · omega
  · intro h4
    rw [if_neg (by omega), if_neg (by omega), if_neg (by omega), if_pos h4] at h
    split at h
    · split at h <;> omega
    · omega
@[local go_sem] theorem methT_truth (x : Value) (w : World) : (method 278 148 x "substation/dataset.tag").run Try.prog w = .ok (98, x) w := by kernel_rfl
@[local go_sem] theorem methD_truth (x : Value) (w : World) : (method 278 148 x "substation/dataset.data").run Try.prog w = .ok (97, x) w := by kernel_rfl
@[local go_sem] theorem methT_whole (x : Value) (w : World) : (method 278 149 x "substation/dataset.tag").run Try.prog w = .ok (101, x) w := by kernel_rfl
@[local go_sem] theorem methD_whole (x : Value) (w : World) : (method 278 149 x "substation/dataset.data").run Try.prog w = .ok (100, x) w := by kernel_rfl
@[local go_sem] theorem methT_bits (x : Value) (w : World) : (method 278 150 x "substation/dataset.tag").run Try.prog w = .ok (105, x) w := by kernel_rfl
@[local go_sem] theorem methD_bits (x : Value) (w : World) : (method 278 150 x "substation/dataset.data").run Try.prog w = .ok (104, x) w := by kernel_rfl
@[local go_sem] theorem methT_text (x : Value) (w : World) : (method 278 151 x "substation/dataset.tag").run Try.prog w = .ok (108, x) w := by kernel_rfl
@[local go_sem] theorem methD_text (x : Value) (w : World) : (method 278 151 x "substation/dataset.data").run Try.prog w = .ok (107, x) w := by kernel_rfl
@[local go_sem] theorem methT_moment (x : Value) (w : World) : (method 278 152 x "substation/dataset.tag").run Try.prog w = .ok (111, x) w := by kernel_rfl
@[local go_sem] theorem methD_moment (x : Value) (w : World) : (method 278 152 x "substation/dataset.data").run Try.prog w = .ok (110, x) w := by kernel_rfl
theorem datV_len (v : Val) (h : chk v = 0) : (datV v).length ≤ 72 := by
  have h2 := chk_size h
  unfold datV
  split
  · rw [numB_len]; omega
  split
  · rw [numB_len]; have := intLen_le v.n; omega
  split
  · rename_i h3; rw [bitsB_len]; have := h2.1 h3; omega
  split
  · rename_i h4; rw [strB_len]; have := h2.2 h4; omega
  · simp [numB_len]
theorem vErr_take {l : List Val} {k : Nat} {x : Val} (h : vErr (l.take k) = 0) (hx : l[k]? = some x) : vErr (l.take (k + 1)) = chk x := by
  induction l generalizing k with
  | nil => simp at hx
  | cons y l ih =>
    cases k with
    | zero =>
      simp only [List.getElem?_cons_zero, Option.some.injEq] at hx
      subst hx
      simp only [List.take_succ_cons, List.take_zero, vErr]
      split
      · rename_i h0; exact h0.symm
      · rfl
    | succ k =>
      simp only [List.getElem?_cons_succ] at hx
      simp only [List.take_succ_cons, vErr] at h ⊢
      split at h
      · rename_i h0; rw [if_pos h0]; exact ih h hx
      · rename_i h0; exact absurd h h0
theorem vErr_of_take : ∀ (l : List Val) (k : Nat), vErr (l.take k) ≠ 0 → vErr l = vErr (l.take k)
  | [], _, h => by simp [vErr] at h
  | y :: l, 0, h => by simp [vErr] at h
  | y :: l, k + 1, h => by
    simp only [List.take_succ_cons, vErr] at h ⊢
    split
    · rename_i h0; rw [if_pos h0] at h; exact vErr_of_take l k h
    · rfl
set_option maxRecDepth 100000 in
set_option maxHeartbeats 8000000 in
theorem nodesP_own {V : Nat → Prop} (m : Nat) (l : List Val) (v : Value) (w : World) (h : RF V 6 valE w v l) (hl : l.length ≤ 1000000) : Calls Try.prog 29 #[v] w (RetNB m w l) := by
  obtain ⟨i0, hi0, hz0, hz1, hz2⟩ := info_parts info_nodeP
  obtain ⟨a, c, rfl, hc1, hc2⟩ := h.form
  have HH := Lib.hid h
  have HER : Hid (∀ (k : Nat) x w', l[k]? = some x → vErr (l.take k) = 0 → chk x ≠ 0 → Ext w w' → RetNB m w l (.returned (.tuple #[.slice none 0 0, .int .i64 (chk x)])) w') := fun k x w' hx h0 hc he => by
    have h1 := vErr_take h0 hx
    have h2 := vErr_of_take l (k + 1) (by rw [h1]; exact hc)
    exact .inl ⟨by rw [h2, h1]; exact hc, by rw [h2, h1], he⟩
  have HOKE : Hid (∀ w' a' c', vErr l = 0 → Ext w w' → Built (RkN m) (Old w) w.heap.size 95 w' (.slice a' l.length c') (l.map (nodeV m)) → RetNB m w l (.returned (.tuple #[.slice a' l.length c', .int .i64 0])) w') := fun w' a' c' h0 he hr => .inr ⟨h0, a', c', rfl, he, hr⟩
  obtain ⟨n, hn⟩ : ∃ n, l.length = n := ⟨_, rfl⟩
  have HN := Lib.hid hn
  rw [hn] at hc1 hl HOKE ⊢
  clear h hc2 hn
  go_enter Try.func29, Try.ntmps29
  go_wp2_with (at_make; refine wpList_make_own _ rfl _ _ 90 rfl w.heap.size 95 i0 _ 3 Try.underlying90 hi0 hz0 hz1 _ _ _ n rfl rfl (by omega) (by rw [hz2]; omega) (by unfold maxLen; omega) (Nat.le_refl _) ?_; intro w2 hown2 hg2; have he2 := (Ext.refl w).trans (ext_of_grown hg2))
  have HB0 : Hid (Built (RkN m) (Old w) w.heap.size 95 w2 (.slice (some ⟨w.heap.size, 0, none⟩) 0 n) []) := by first | exact ⟨[], hown2, rfl, fun _ h => (by simp at h), fun i h _ => (by simp at h)⟩
  clear hown2 hg2
  go_loopw [4, 15] (fun o i wr => ∃ (k : Nat), k ≤ n ∧ i = .int .i64 k ∧ Built (RkN m) (Old w) w.heap.size 95 wr o ((l.take k).map (nodeV m)) ∧ vErr (l.take k) = 0 ∧ Ext w wr) (fun _ i _ => n - (intOf i).toNat)
  case atStart => exact ⟨0, by omega, rfl, HB0.out, rfl, he2⟩
  case round =>
    obtain ⟨k, hk, rfl, hbuilt, hok, hx⟩ := hrel
    by_cases hlt : k < n
    · obtain ⟨xv, hxv⟩ : ∃ x, l[k]? = some x := ⟨_, List.getElem?_eq_getElem (by rw [HN.out]; exact hlt)⟩
      obtain ⟨b, off, c', hv, g0, g1, g2, g3, g4, g5⟩ := val_get (HH.out.ext hx) hxv
      rw [HN.out] at hv
      simp only [Value.slice.injEq] at hv
      obtain ⟨rfl, -, rfl⟩ := hv
      have hki : (k : Int) < n := by omega
      have HCK := Lib.hid (fun w1 => checkV_any xv w1)
      have HX := Lib.hid hx
      by_cases hck : chk xv = 0
      · have hkn := chk_kind hck
        have HSZ := Lib.hid (chk_size hck)
        have hdl0 := datV_len xv hck
        have HC := Lib.hid (fun w1 => contentOf_yes xv w1 hkn)
        have HOKN : Hid (vErr (l.take (k + 1)) = 0) := (vErr_take hok hxv).trans hck
        have HTK : Hid (l.take (k + 1) = l.take k ++ [xv]) := by show l.take (k + 1) = _; rw [List.take_add_one, hxv]; rfl
        rw [hck] at HCK
        obtain ⟨css, hown, hlen, h3, hrep⟩ := hbuilt
        have hlk : ((l.take k).map (nodeV m)).length = k := by simp; have := HN.out; omega
        rw [hlk] at hown
        have HLK := Lib.hid hlk
        have HVR := Lib.hid (With.lt (V := Old w) (fun g hg => hx.lt hg) hown)
        have HL := Lib.hid hlen
        have H3 := Lib.hid h3
        have HR := Lib.hid hrep
        have HO := Lib.hid hown
        clear hlk hlen h3 hrep hown hok hx hck hxv HER
        obtain ⟨vk, vn, vs, va, vb, vc⟩ := xv
        simp only at *
        simp only [isKind, Bool.and_eq_true, decide_eq_true_eq] at hkn
        have HDL : Hid (∀ i : Int, vk = i → (datV ⟨i, vn, vs, va, vb, vc⟩).length ≤ 72) := fun i hi => by subst hi; exact hdl0
        clear hdl0
        go_upto_region 5 with fail
        have hW : Ext wr (wr.alloc (.cells #[.int .i64 vk, .int .i64 vn, .string vs, .int .i64 va, .int .i64 vb, .int .i64 vc] 78)) := (Ext.refl wr).alloc _
        have BV := Bk.new wr #[.int .i64 vk, .int .i64 vn, .string vs, .int .i64 va, .int .i64 vb, .int .i64 vc] 78 wr.heap.size rfl
        generalize wr.alloc (.cells #[.int .i64 vk, .int .i64 vn, .string vs, .int .i64 va, .int .i64 vb, .int .i64 vc] 78) = w1 at *
        have q1 : ∀ j, w1.cell? ⟨wr.heap.size, j, none⟩ = (#[.int .i64 vk, .int .i64 vn, .string vs, .int .i64 va, .int .i64 vb, .int .i64 vc] : Array Value)[j]? := BV.cell
        go_wp2_with fail
        refine (HCK.out _).mono ?_
        rintro e w2 ⟨rfl, x2⟩
        have q2 : ∀ j, w2.cell? ⟨wr.heap.size, j, none⟩ = (#[.int .i64 vk, .int .i64 vn, .string vs, .int .i64 va, .int .i64 vb, .int .i64 vc] : Array Value)[j]? := (BV.ext x2).cell
        have E2 : Ext wr w2 := hW.trans x2
        clear q1 g0 g1 g2 g3 g4 g5 BV x2 hW HCK
        obtain hkd | hkd | hkd | hkd | hkd : vk = 1 ∨ vk = 2 ∨ vk = 3 ∨ vk = 4 ∨ vk = 5 := by omega
        · subst hkd
          rw [contV_1 _ rfl] at HC
          simp only at HC
          have HT : Hid (tagV ⟨1, vn, vs, va, vb, vc⟩ = 131) := rfl
          have HDV := Lib.hid (fun w1 => (dataTruth_any vn w1))
          have HDE : Hid (datV ⟨1, vn, vs, va, vb, vc⟩ = numB vn 1) := rfl
          rw [← HDE.out] at HDV
          have HNX : Hid (nodeV m ⟨1, vn, vs, va, vb, vc⟩ = (131, datV ⟨1, vn, vs, va, vb, vc⟩, [])) := rfl
          generalize datV ⟨1, vn, vs, va, vb, vc⟩ = D at *
          go_wp2_with fail
          refine (HC.out _).mono ?_
          rintro e w3 ⟨rfl, x3⟩
          go_wp2_with fail
          refine (tagTruth_any _ _).mono ?_
          rintro e w4 ⟨rfl, rfl⟩
          go_wp2_with fail
          refine (HDV.out _).mono ?_
          rintro e w5 ⟨a5, c5, rfl, x5, r5⟩
          have E5 : Ext wr w5 := (E2.trans x3).trans x5
          have R5 := Lib.hid (r5 (With (Old w) u4) (fun g hg => (E2.trans x3).lt (HVR.out g hg)))
          have hdl := HDL.out 1 rfl
          clear r5 x3 x5 E2
          generalize hDl : D.length = dl at *
          have HDl := Lib.hid hDl
          clear hDl
          go_wp2_with (at_builtin; refine wpList_append_src _ rfl (.tmp 31) (.tmp 37) _ rfl w.heap.size 95 i0 _ 3 56 Try.underlying90 hi0 hz0 hz1 hz2 rfl (by omega) u4 k css.flatten rfl ((own_ext HO.out E5).alloc _) _ 1 1 [.int .i64 131, .slice a5 dl c5, .slice none 0 0] rfl (Src.litB _ #[.int .i64 131, .slice a5 dl c5, .slice none 0 0] _ 3 _ (by simp) rfl (by simp [Value.oneCell'])) (by unfold maxLen; omega) (by omega) (by simp; exact Nat.le_succ_of_le (HX.out.trans E5).size) ?_; intro A6 c6 w6 hown6 hg6 hat6)
          have HB2 := Lib.hid (Built.push (w := wr) (x := nodeV m ⟨1, vn, vs, va, vb, vc⟩) HL.out H3.out HR.out (cs := [.int .i64 131, .slice a5 dl c5, .slice none 0 0]) rfl (E5.alloc _)
            (by rw [HNX.out]; exact ⟨_, _, rfl, R5.out.ext ((Ext.refl _).alloc _), rk_nil m _ _⟩) (by rw [HLK.out]; exact hown6) hg6 hat6)
          have hx6 : Ext w w6 := (HX.out.trans (E5.alloc _)).grown hg6 (fun g hg => (HO.out.lt g hg).1)
          clear hown6 hg6 hat6 E5
          go_wp2_with fail
          go_roundw
          case rel => exact ⟨k + 1, by omega, by go_num, by rw [HTK.out, List.map_append]; exact HB2.out, HOKN.out, hx6⟩
          case measure => simp [intOf]; omega
        · subst hkd
          rw [contV_2 _ rfl] at HC
          simp only at HC
          have HT : Hid (tagV ⟨2, vn, vs, va, vb, vc⟩ = 133) := rfl
          have HDV := Lib.hid (fun w1 => (dataWhole_any vn w1))
          have HDE : Hid (datV ⟨2, vn, vs, va, vb, vc⟩ = numB vn (intLen vn)) := rfl
          rw [← HDE.out] at HDV
          have HNX : Hid (nodeV m ⟨2, vn, vs, va, vb, vc⟩ = (133, datV ⟨2, vn, vs, va, vb, vc⟩, [])) := rfl
          generalize datV ⟨2, vn, vs, va, vb, vc⟩ = D at *
          go_wp2_with fail
          refine (HC.out _).mono ?_
          rintro e w3 ⟨rfl, x3⟩
          go_wp2_with fail
          refine (tagWhole_any _ _).mono ?_
          rintro e w4 ⟨rfl, rfl⟩
          go_wp2_with fail
          refine (HDV.out _).mono ?_
          rintro e w5 ⟨a5, c5, rfl, x5, r5⟩
          have E5 : Ext wr w5 := (E2.trans x3).trans x5
          have R5 := Lib.hid (r5 (With (Old w) u4) (fun g hg => (E2.trans x3).lt (HVR.out g hg)))
          have hdl := HDL.out 2 rfl
          clear r5 x3 x5 E2
          generalize hDl : D.length = dl at *
          have HDl := Lib.hid hDl
          clear hDl
          go_wp2_with (at_builtin; refine wpList_append_src _ rfl (.tmp 31) (.tmp 37) _ rfl w.heap.size 95 i0 _ 3 56 Try.underlying90 hi0 hz0 hz1 hz2 rfl (by omega) u4 k css.flatten rfl ((own_ext HO.out E5).alloc _) _ 1 1 [.int .i64 133, .slice a5 dl c5, .slice none 0 0] rfl (Src.litB _ #[.int .i64 133, .slice a5 dl c5, .slice none 0 0] _ 3 _ (by simp) rfl (by simp [Value.oneCell'])) (by unfold maxLen; omega) (by omega) (by simp; exact Nat.le_succ_of_le (HX.out.trans E5).size) ?_; intro A6 c6 w6 hown6 hg6 hat6)
          have HB2 := Lib.hid (Built.push (w := wr) (x := nodeV m ⟨2, vn, vs, va, vb, vc⟩) HL.out H3.out HR.out (cs := [.int .i64 133, .slice a5 dl c5, .slice none 0 0]) rfl (E5.alloc _)
            (by rw [HNX.out]; exact ⟨_, _, rfl, R5.out.ext ((Ext.refl _).alloc _), rk_nil m _ _⟩) (by rw [HLK.out]; exact hown6) hg6 hat6)
          have hx6 : Ext w w6 := (HX.out.trans (E5.alloc _)).grown hg6 (fun g hg => (HO.out.lt g hg).1)
          clear hown6 hg6 hat6 E5
          go_wp2_with fail
          go_roundw
          case rel => exact ⟨k + 1, by omega, by go_num, by rw [HTK.out, List.map_append]; exact HB2.out, HOKN.out, hx6⟩
          case measure => simp [intOf]; omega
        · subst hkd
          rw [contV_3 _ rfl] at HC
          simp only at HC
          have HT : Hid (tagV ⟨3, vn, vs, va, vb, vc⟩ = 132) := rfl
          have HDV := Lib.hid (fun w1 => (dataBits_any vs w1 (HSZ.out.1 rfl)))
          have HDE : Hid (datV ⟨3, vn, vs, va, vb, vc⟩ = bitsB vs) := rfl
          rw [← HDE.out] at HDV
          have HNX : Hid (nodeV m ⟨3, vn, vs, va, vb, vc⟩ = (132, datV ⟨3, vn, vs, va, vb, vc⟩, [])) := rfl
          generalize datV ⟨3, vn, vs, va, vb, vc⟩ = D at *
          go_wp2_with fail
          refine (HC.out _).mono ?_
          rintro e w3 ⟨rfl, x3⟩
          go_wp2_with fail
          refine (tagBits_any _ _).mono ?_
          rintro e w4 ⟨rfl, rfl⟩
          go_wp2_with fail
          refine (HDV.out _).mono ?_
          rintro e w5 ⟨a5, c5, rfl, x5, r5⟩
          have E5 : Ext wr w5 := (E2.trans x3).trans x5
          have R5 := Lib.hid (r5 (With (Old w) u4) (fun g hg => (E2.trans x3).lt (HVR.out g hg)))
          have hdl := HDL.out 3 rfl
          clear r5 x3 x5 E2
          generalize hDl : D.length = dl at *
          have HDl := Lib.hid hDl
          clear hDl
          go_wp2_with (at_builtin; refine wpList_append_src _ rfl (.tmp 31) (.tmp 37) _ rfl w.heap.size 95 i0 _ 3 56 Try.underlying90 hi0 hz0 hz1 hz2 rfl (by omega) u4 k css.flatten rfl ((own_ext HO.out E5).alloc _) _ 1 1 [.int .i64 132, .slice a5 dl c5, .slice none 0 0] rfl (Src.litB _ #[.int .i64 132, .slice a5 dl c5, .slice none 0 0] _ 3 _ (by simp) rfl (by simp [Value.oneCell'])) (by unfold maxLen; omega) (by omega) (by simp; exact Nat.le_succ_of_le (HX.out.trans E5).size) ?_; intro A6 c6 w6 hown6 hg6 hat6)
          have HB2 := Lib.hid (Built.push (w := wr) (x := nodeV m ⟨3, vn, vs, va, vb, vc⟩) HL.out H3.out HR.out (cs := [.int .i64 132, .slice a5 dl c5, .slice none 0 0]) rfl (E5.alloc _)
            (by rw [HNX.out]; exact ⟨_, _, rfl, R5.out.ext ((Ext.refl _).alloc _), rk_nil m _ _⟩) (by rw [HLK.out]; exact hown6) hg6 hat6)
          have hx6 : Ext w w6 := (HX.out.trans (E5.alloc _)).grown hg6 (fun g hg => (HO.out.lt g hg).1)
          clear hown6 hg6 hat6 E5
          go_wp2_with fail
          go_roundw
          case rel => exact ⟨k + 1, by omega, by go_num, by rw [HTK.out, List.map_append]; exact HB2.out, HOKN.out, hx6⟩
          case measure => simp [intOf]; omega
        · subst hkd
          rw [contV_4 _ rfl] at HC
          simp only at HC
          have HT : Hid (tagV ⟨4, vn, vs, va, vb, vc⟩ = 138) := rfl
          have HDV := Lib.hid (fun w1 => (dataText_any vs w1 (Nat.le_trans (HSZ.out.2 rfl) (by omega))))
          have HDE : Hid (datV ⟨4, vn, vs, va, vb, vc⟩ = strB vs) := rfl
          rw [← HDE.out] at HDV
          have HNX : Hid (nodeV m ⟨4, vn, vs, va, vb, vc⟩ = (138, datV ⟨4, vn, vs, va, vb, vc⟩, [])) := rfl
          generalize datV ⟨4, vn, vs, va, vb, vc⟩ = D at *
          go_wp2_with fail
          refine (HC.out _).mono ?_
          rintro e w3 ⟨rfl, x3⟩
          go_wp2_with fail
          refine (tagText_any _ _).mono ?_
          rintro e w4 ⟨rfl, rfl⟩
          go_wp2_with fail
          refine (HDV.out _).mono ?_
          rintro e w5 ⟨a5, c5, rfl, x5, r5⟩
          have E5 : Ext wr w5 := (E2.trans x3).trans x5
          have R5 := Lib.hid (r5 (With (Old w) u4) (fun g hg => (E2.trans x3).lt (HVR.out g hg)))
          have hdl := HDL.out 4 rfl
          clear r5 x3 x5 E2
          generalize hDl : D.length = dl at *
          have HDl := Lib.hid hDl
          clear hDl
          go_wp2_with (at_builtin; refine wpList_append_src _ rfl (.tmp 31) (.tmp 37) _ rfl w.heap.size 95 i0 _ 3 56 Try.underlying90 hi0 hz0 hz1 hz2 rfl (by omega) u4 k css.flatten rfl ((own_ext HO.out E5).alloc _) _ 1 1 [.int .i64 138, .slice a5 dl c5, .slice none 0 0] rfl (Src.litB _ #[.int .i64 138, .slice a5 dl c5, .slice none 0 0] _ 3 _ (by simp) rfl (by simp [Value.oneCell'])) (by unfold maxLen; omega) (by omega) (by simp; exact Nat.le_succ_of_le (HX.out.trans E5).size) ?_; intro A6 c6 w6 hown6 hg6 hat6)
          have HB2 := Lib.hid (Built.push (w := wr) (x := nodeV m ⟨4, vn, vs, va, vb, vc⟩) HL.out H3.out HR.out (cs := [.int .i64 138, .slice a5 dl c5, .slice none 0 0]) rfl (E5.alloc _)
            (by rw [HNX.out]; exact ⟨_, _, rfl, R5.out.ext ((Ext.refl _).alloc _), rk_nil m _ _⟩) (by rw [HLK.out]; exact hown6) hg6 hat6)
          have hx6 : Ext w w6 := (HX.out.trans (E5.alloc _)).grown hg6 (fun g hg => (HO.out.lt g hg).1)
          clear hown6 hg6 hat6 E5
          go_wp2_with fail
          go_roundw
          case rel => exact ⟨k + 1, by omega, by go_num, by rw [HTK.out, List.map_append]; exact HB2.out, HOKN.out, hx6⟩
          case measure => simp [intOf]; omega
        · subst hkd
          rw [contV_5 _ rfl] at HC
          simp only at HC
          have HT : Hid (tagV ⟨5, vn, vs, va, vb, vc⟩ = 145) := rfl
          have HDV := Lib.hid (fun w1 => (dataMoment_any va vb vc w1))
          have HDE : Hid (datV ⟨5, vn, vs, va, vb, vc⟩ = numB va 4 ++ numB vb 3 ++ numB vc 1) := rfl
          rw [← HDE.out] at HDV
          have HNX : Hid (nodeV m ⟨5, vn, vs, va, vb, vc⟩ = (145, datV ⟨5, vn, vs, va, vb, vc⟩, [])) := rfl
          generalize datV ⟨5, vn, vs, va, vb, vc⟩ = D at *
          go_wp2_with fail
          refine (HC.out _).mono ?_
          rintro e w3 ⟨rfl, x3⟩
          go_wp2_with fail
          refine (tagMoment_any _ _ _ _).mono ?_
          rintro e w4 ⟨rfl, x4⟩
          go_wp2_with fail
          refine (HDV.out _).mono ?_
          rintro e w5 ⟨a5, c5, rfl, x5, r5⟩
          have E5 : Ext wr w5 := (E2.trans x3).trans (x4.trans x5)
          have R5 := Lib.hid (r5 (With (Old w) u4) (fun g hg => ((E2.trans x3).trans x4).lt (HVR.out g hg)))
          have hdl := HDL.out 5 rfl
          clear r5 x3 x5 E2
          generalize hDl : D.length = dl at *
          have HDl := Lib.hid hDl
          clear hDl
          go_wp2_with (at_builtin; refine wpList_append_src _ rfl (.tmp 31) (.tmp 37) _ rfl w.heap.size 95 i0 _ 3 56 Try.underlying90 hi0 hz0 hz1 hz2 rfl (by omega) u4 k css.flatten rfl ((own_ext HO.out E5).alloc _) _ 1 1 [.int .i64 145, .slice a5 dl c5, .slice none 0 0] rfl (Src.litB _ #[.int .i64 145, .slice a5 dl c5, .slice none 0 0] _ 3 _ (by simp) rfl (by simp [Value.oneCell'])) (by unfold maxLen; omega) (by omega) (by simp; exact Nat.le_succ_of_le (HX.out.trans E5).size) ?_; intro A6 c6 w6 hown6 hg6 hat6)
          have HB2 := Lib.hid (Built.push (w := wr) (x := nodeV m ⟨5, vn, vs, va, vb, vc⟩) HL.out H3.out HR.out (cs := [.int .i64 145, .slice a5 dl c5, .slice none 0 0]) rfl (E5.alloc _)
            (by rw [HNX.out]; exact ⟨_, _, rfl, R5.out.ext ((Ext.refl _).alloc _), rk_nil m _ _⟩) (by rw [HLK.out]; exact hown6) hg6 hat6)
          have hx6 : Ext w w6 := (HX.out.trans (E5.alloc _)).grown hg6 (fun g hg => (HO.out.lt g hg).1)
          clear hown6 hg6 hat6 E5
          go_wp2_with fail
          go_roundw
          case rel => exact ⟨k + 1, by omega, by go_num, by rw [HTK.out, List.map_append]; exact HB2.out, HOKN.out, hx6⟩
          case measure => simp [intOf]; omega

      · have HE := Lib.hid (fun w' he => HER.out k xv w' hxv hok hck he)
        have hcb : (chk xv != 0) = true := by simpa using hck
        clear hok hxv hck hbuilt hx
        generalize chk xv = ce at *
        obtain ⟨vk, vn, vs, va, vb, vc⟩ := xv
        simp only at *
        go_upto_region 5 with fail
        have hW : Ext wr (wr.alloc (.cells #[.int .i64 vk, .int .i64 vn, .string vs, .int .i64 va, .int .i64 vb, .int .i64 vc] 78)) := (Ext.refl wr).alloc _
        have BV := Bk.new wr #[.int .i64 vk, .int .i64 vn, .string vs, .int .i64 va, .int .i64 vb, .int .i64 vc] 78 wr.heap.size rfl
        generalize wr.alloc (.cells #[.int .i64 vk, .int .i64 vn, .string vs, .int .i64 va, .int .i64 vb, .int .i64 vc] 78) = w1 at *
        have q1 : ∀ j, w1.cell? ⟨wr.heap.size, j, none⟩ = (#[.int .i64 vk, .int .i64 vn, .string vs, .int .i64 va, .int .i64 vb, .int .i64 vc] : Array Value)[j]? := BV.cell
        go_wp2_with fail
        refine (HCK.out _).mono ?_
        rintro e w2 ⟨rfl, x2⟩
        go_wp2_with fail
        go_ret2
        exact HE.out _ ((HX.out.trans hW).trans x2)
    · have hki : ¬ (k : Int) < n := by omega
      have hl2 := take_all l k (by rw [HN.out]; omega)
      rw [hl2] at hbuilt hok
      obtain ⟨a', c', rfl⟩ := owns_slice hbuilt.choose_spec.1
      simp only [List.length_map, HN.out] at hbuilt ⊢
      have HF := Lib.hid (HOKE.out wr a' c' hok hx hbuilt)
      clear hbuilt hok hx
      go_wp2_with fail
      go_ret2
      exact HF.out
theorem nodesP_any {V : Nat → Prop} (m : Nat) (l : List Val) (v : Value) (w : World) (h : RF V 6 valE w v l) (hl : l.length ≤ 1000000) : Calls Try.prog 29 #[v] w (RetNE m w l) := by
  refine (nodesP_own m l v w h hl).mono ?_
  rintro e w' (h0 | ⟨h0, a, c, rfl, x, r⟩)
  · exact .inl h0
  · exact .inr ⟨h0, a, c, rfl, x, r.done (fun g hg => hg)⟩
end Go.Proofs.Ytimnepfdpehdmaa

namespace Go.Proofs.Ytimnepfdpehdmaa
open Go.RowKit
attribute [local go_sem ↓] Go.wp_at_zero Go.wp_at_succ

/-- The bytes of values, and their error. -/
def encDB (l : List Val) : List Int := if vErr l = 0 then encOut 1 (l.map (nodeV 0)) else []
def encDE (l : List Val) : Int := if vErr l = 0 then encErr 1 (l.map (nodeV 0)) else vErr l
theorem vErr_zero : ∀ (l : List Val), vErr l = 0 → ∀ x ∈ l, chk x = 0
  | [], _, x, hx => by cases hx
  | y :: l, h, x, hx => by
    simp only [vErr] at h
    split at h
    · rename_i h0
      cases hx with
      | head => exact h0
      | tail _ hx => exact vErr_zero l h x hx
    · rename_i h0; exact absurd h h0
theorem cnt_vals (m : Nat) : ∀ (l : List Val), vErr l = 0 → cntS (cntN m) (l.map (nodeV m)) ≤ 73 * l.length
  | [], _ => by simp [cntS]
  | x :: l, h => by
    have h1 := vErr_zero _ h x (by simp)
    have h2 : vErr l = 0 := by simp only [vErr, h1, if_true] at h; exact h
    have ih := cnt_vals m l h2
    have h3 := datV_len x h1
    have h4 : cntN m [] = 0 := by cases m <;> rfl
    simp only [cntS, List.map_cons, List.length_cons, List.length_map, List.sum_cons, nodeV, h4, List.map_map] at ih ⊢
    have e : ((fun x : NodeOf (Nd m) => x.2.1.length + cntN m x.2.2) ∘ nodeV m) = fun x => (datV x).length := by
      funext y; simp [nodeV, h4]
    simp only [e] at ih ⊢
    omega
def tru (b : Bool) : Val := ⟨1, if b then 1 else 0, ⟨#[]⟩, 0, 0, 0⟩
theorem truth_any (b : Bool) (w : World) : Calls Try.prog 23 #[.bool b] w fun e w' => e = .returned (valA (tru b)) ∧ Ext w w' := by
  cases b
  · go_enter Try.func23, Try.ntmps23
    go_wp2
    exact bodyPost_ret (v := .agg #[.int .i64 1, .int .i64 0, .string ⟨#[]⟩, .int .i64 0, .int .i64 0, .int .i64 0]) (by simp [results, Try.results23, go_sem]) rfl ⟨rfl, (Ext.refl _).alloc _⟩
  · go_enter Try.func23, Try.ntmps23
    go_wp2
    exact bodyPost_ret (v := .agg #[.int .i64 1, .int .i64 1, .string ⟨#[]⟩, .int .i64 0, .int .i64 0, .int .i64 0]) (by simp [results, Try.results23, go_sem]) rfl ⟨rfl, (Ext.refl _).alloc _⟩
/-- One value in a slice of its own. -/
theorem RF.single (w : World) (cs : Array Value) (x : Val) (B : Nat) (hB : w.heap.size = B) (hc : cs.toList = valE x) : RF Any 6 valE (w.alloc (.cells cs 78)) (.slice (some ⟨B, 0, none⟩) 1 1) [x] :=
  RS.one w cs 78 B hB x (by rw [← Array.length_toList, hc]; rfl) hc (fun h => h)
def knownV : List Val := [⟨2, -1, ⟨#[]⟩, 0, 0, 0⟩]
theorem knownV_out : encDB knownV = [133, 1, 255] ∧ encDE knownV = 0 := by decide +kernel
end Go.Proofs.Ytimnepfdpehdmaa
