/- Contracts of the leaves of layer 11: bytes of numbers, texts, times. -/
import Derived.Test.YtjaofbfppnmdjaaChecked
import Derived.Test.YtjaofbfppnmdjaaDatP
import Derived.Test.YtjaofbfppnmdjaaTlvE
import Derived.Test.YtjaofbfppnmdjaaRow2
import Derived.Lib.ConvBytes
import Derived.Deep.DeepCutAuto
namespace Go.Proofs.Ytjaofbfppnmdjaa
open Go.RowKit
attribute [local go_sem ↓] Go.wp_at_zero Go.wp_at_succ

theorem make_bytes (k : Nat) (hk : k ≤ 1000000) : ∃ cur : Array Value, cur.size = k ∧ (∀ i : Nat, i < k → cur[i]? = some (.int .u8 0)) ∧ ∀ W : World, (Instr.makeSlice 25 (.int .i64 (k : Int)) (.int .i64 (k : Int))).run Try.prog W = .ok (.slice (some ⟨W.heap.size, 0, none⟩) k k) (W.alloc (.cells cur 5)) := by
  obtain ⟨i0, hi0, hz0, hz1, hz2⟩ := info_parts info_byte
  refine ⟨madeCells (Value.int .u8 0).cells (k * 1), by rw [size_madeCells]; omega, fun i hi => ?_, fun W => ?_⟩
  · rw [Nat.mul_one, show (Value.int .u8 0).cells = #[Value.int .u8 0] from rfl, ← Array.getElem?_toList, toList_madeCells_one]
    simp [hi]
  · have := run_make (P := Try.prog) W 25 5 i0 _ Try.underlying25 hi0 hz0 .i64 .i64 k k (by omega) (Int.le_refl _) (by rw [hz2]; omega) (by omega)
    simp only [Int.toNat_natCast, hz1] at this
    exact this
/-- It returns a new row of bytes, its own. -/
def RetO (w : World) (bs : List Int) (e : Ending) (w' : World) : Prop := ∃ a c, e = .returned (.slice a bs.length c) ∧ Ext w w' ∧ w'.ownsRow w.heap.size 5 1 (.slice a bs.length c) bs.length (bs.map (Value.int .u8))
theorem RetO.toB {w w' : World} {bs : List Int} {e : Ending} (hb : Byt bs) (h : RetO w bs e w') : RetB w bs e w' := by
  obtain ⟨a, c, he, hx, ho⟩ := h
  exact ⟨a, c, he, hx, fun V hV => RB.of_own ho hb hV⟩
theorem own_base {w : World} {base base' : Nat} {e : TypeId} {size : Nat} {v : Value} {n : Nat} {xs : List Value} (h : w.ownsRow base e size v n xs) (hb : base' ≤ base) : w.ownsRow base' e size v n xs := by
  refine ⟨h.1, ?_⟩
  rcases h.2 with hn | ⟨g, cap, cur, rfl, hg, rest⟩
  · exact .inl hn
  · exact .inr ⟨g, cap, cur, rfl, by omega, rest⟩
theorem RetO.of_blk {w w' : World} {bs : List Int} {cs : Array Value} (h : Bk w' w.heap.size 5 cs) (hs : cs.size = bs.length) (hc : ∀ i : Nat, i < bs.length → cs[i]? = some (.int .u8 (bs.getD i 0))) (hm : bs.length ≤ 65536) (he : Ext w w') :
    RetO w bs (.returned (.slice (some ⟨w.heap.size, 0, none⟩) bs.length bs.length)) w' := by
  refine ⟨_, _, rfl, he, by simp, .inr ⟨w.heap.size, bs.length, cs, rfl, Nat.le_refl _, h, Nat.le_refl _, by unfold maxLen; omega, by omega, ?_⟩⟩
  rw [List.take_of_length_le (by simp [hs])]
  apply List.ext_getElem (by simp [hs])
  intro i h1 h2
  have h3 : i < bs.length := by simpa using h2
  have := hc i h3
  rw [Array.getElem?_eq_getElem (by omega)] at this
  injection this with this
  simp [this, h3]
set_option maxHeartbeats 2000000 in
theorem numberP_own (n : Int) (k : Nat) (w : World) (hk1 : 1 ≤ k) (hk : k ≤ 8) : Calls Try.prog 112 #[.int .i64 n, .int .i64 k] w (RetO w (numB n k)) := by
  obtain ⟨cur, hcs, hc0, hmk⟩ := make_bytes k (by omega)
  have HCS := Lib.hid hcs
  clear hcs hc0
  go_enter Try.func112, Try.ntmps112
  go_wp2
  have HB := Lib.hid (Bk.new w cur 5 w.heap.size rfl)
  have HX := Lib.hid ((Ext.refl w).alloc (.cells cur 5))
  generalize w.alloc (.cells cur 5) = W at *
  clear hmk
  go_loopw [6, 11] (fun _ i wr => ∃ (j : Nat) (cs : Array Value), j ≤ k ∧ i = .int .i64 j ∧ Bk wr w.heap.size 5 cs ∧ cs.size = k ∧ (∀ q : Nat, q < j → cs[q]? = some (.int .u8 ((numB n k).getD q 0))) ∧ Ext w wr) (fun _ i _ => k - (intOf i).toNat)
  case atStart => exact ⟨0, cur, by omega, rfl, HB.out, HCS.out, fun q h => by omega, HX.out⟩
  case round =>
    obtain ⟨j, cs, hj, rfl, hbk, hsz, hall, hx⟩ := hrel
    by_cases hlt : j < k
    · have hji : (j : Int) < k := by omega
      have hj0 : (0 : Int) ≤ (j : Int) := by omega
      obtain ⟨x0, hx0⟩ : ∃ x0, cs[j]? = some x0 := ⟨_, Array.getElem?_eq_getElem (by omega)⟩
      have q0 : wr.cell? ⟨w.heap.size, j, none⟩ = some x0 := (hbk.cell j).trans hx0
      clear hx0
      have f0 := hbk.frozen j
      have HBK := Lib.hid hbk
      have HSZ := Lib.hid hsz
      have HALL := Lib.hid hall
      have ht : (8 * ((k : Int) - 1 - j)).toNat = 8 * (k - 1 - j) := by omega
      clear hbk hsz hall
      go_wp2
      go_roundw
      case rel =>
        refine ⟨j + 1, cs.setIfInBounds j (.int .u8 (n / 2 ^ (8 * (k - 1 - j)) % 256)), by omega, by go_num, HBK.out.setCell j _, by simp [HSZ.out], fun q hq => ?_, hx.setCell (Nat.le_refl _) _⟩
        by_cases hqj : q = j
        · subst hqj
          rw [Array.getElem?_setIfInBounds_self_of_lt (by rw [HSZ.out]; exact hlt), List.getD_eq_getElem?_getD, numB_get n k q hlt]
          rfl
        · rw [Array.getElem?_setIfInBounds_ne (Ne.symm hqj)]
          exact HALL.out q (by omega)
      case measure => simp [intOf]; omega
    · have hji : ¬ (j : Int) < k := by omega
      have hjk : j = k := by omega
      have HF := Lib.hid (RetO.of_blk (w := w) (bs := numB n k) hbk (by rw [numB_len]; exact hsz) (fun q hq => hall q (by rw [numB_len] at hq; omega)) (by rw [numB_len]; omega) hx)
      rw [numB_len] at HF
      clear hbk hsz hall
      go_wp2
      go_ret
      exact HF.out
theorem numberP_any (n : Int) (k : Nat) (w : World) (hk1 : 1 ≤ k) (hk : k ≤ 8) : Calls Try.prog 112 #[.int .i64 n, .int .i64 k] w (RetB w (numB n k)) :=
  (numberP_own n k w hk1 hk).mono fun _ _ h => h.toB (numB_byt n k)
theorem numB_one (n : Int) : numB n 1 = [n % 256] := by simp [numB]
theorem take_snocB {bs : List Int} {j : Nat} {x : Int} (h : bs[j]? = some x) : bs.take (j + 1) = bs.take j ++ [x] := by
  rw [List.take_add_one, h]; rfl
set_option maxRecDepth 100000 in
set_option maxHeartbeats 2000000 in
theorem bigR_own (n : Int) (k : Nat) (w : World) (hk : k ≤ 8) : Calls Try.prog 72 #[.int .i64 n, .int .i64 k] w (RetO w (numB n k)) := by
  obtain ⟨i0, hi0, hz0, hz1, hz2⟩ := info_parts info_byte
  have HF : Hid (∀ w' v, w'.ownsRow w.heap.size 5 1 v k ((numB n k).map (Value.int .u8)) → Ext w w' → ∃ a c, v = .slice a k c ∧ RetO w (numB n k) (.returned (.slice a k c)) w') := fun w' v ho he => by
    obtain ⟨a, c, rfl⟩ := owns_slice ho
    exact ⟨a, c, rfl, a, c, by rw [numB_len], he, by rw [numB_len]; exact ho⟩
  go_enter Try.func72, Try.ntmps72
  go_wp2
  go_loopw [5, 6] (fun v i wr => ∃ j : Nat, j ≤ k ∧ i = .int .i64 ((k : Int) - 1 - j) ∧ wr.ownsRow w.heap.size 5 1 v j (((numB n k).take j).map (Value.int .u8)) ∧ Ext w wr) (fun _ i _ => (intOf i + 1).toNat)
  case atStart => exact ⟨0, by omega, by simp, World.ownsRow_nil _ _ _ _, Ext.refl _⟩
  case round =>
    obtain ⟨j, hj, rfl, hown, hx⟩ := hrel
    by_cases hlt : j < k
    · have hji : (0 : Int) ≤ (k : Int) - 1 - j := by omega
      have hjd : decide ((0 : Int) ≤ (k : Int) - 1 - j) = true := by simpa using hji
      have ht : (8 * ((k : Int) - 1 - j)).toNat = 8 * (k - 1 - j) := by omega
      have HO := Lib.hid hown
      have HT := Lib.hid (take_snocB (numB_get n k j hlt))
      have HX := Lib.hid hx
      generalize hxs : ((numB n k).take j).map (Value.int .u8) = xs at *
      have HXS := Lib.hid hxs
      clear hown hxs hx
      go_wp2_with (at_builtin; refine wpList_append_src _ rfl (.tmp 13) (.tmp 20) _ rfl w.heap.size 5 i0 _ 1 1 Try.underlying25 hi0 hz0 hz1 hz2 rfl (by omega) u5 j xs rfl (own_ext HO.out ((Ext.refl wr).alloc _)) _ 1 1 [.int .u8 (n / 2 ^ (8 * (k - 1 - j)) % 256)] rfl (Src.litB _ #[.int .u8 (n / 2 ^ (8 * (k - 1 - j)) % 256)] 5 1 _ (by simp) rfl (by simp [Value.oneCell'])) (by unfold maxLen; omega) (by omega) (by simp; exact Nat.le_succ_of_le HX.out.size) ?_; intro A1 c1 w1 hown1 hg1 hat1; have hE1 : Ext w w1 := (HX.out.alloc _).grown hg1 (fun g hg => (HO.out.lt g hg).1))
      have HO1 := Lib.hid hown1
      clear hown1 hg1 hat1
      go_wp2
      go_roundw
      case rel => exact ⟨j + 1, by omega, by congr 1; omega, by rw [HT.out, List.map_append, HXS.out]; exact HO1.out, hE1⟩
      case measure => simp [intOf]; omega
    · have hji : ¬ (0 : Int) ≤ (k : Int) - 1 - j := by omega
      have hjk : j = k := by omega
      rw [hjk, List.take_of_length_le (by rw [numB_len]; exact Nat.le_refl _)] at hown
      obtain ⟨a, c, rfl, hF⟩ := HF.out wr _ hown hx
      have HFF := Lib.hid hF
      clear hF hown
      go_wp2
      go_ret
      exact HFF.out
theorem bigR_any (n : Int) (k : Nat) (w : World) (hk : k ≤ 8) : Calls Try.prog 72 #[.int .i64 n, .int .i64 k] w (RetB w (numB n k)) :=
  (bigR_own n k w hk).mono fun _ _ h => h.toB (numB_byt n k)
set_option maxRecDepth 100000 in
set_option maxHeartbeats 2000000 in
theorem dataWhole_any (n : Int) (w : World) : Calls Try.prog 110 #[.int .i64 n] w (RetB w (numB n (intLen n))) := by
  have HN := Lib.hid (fun w1 => numberP_any n (intLen n) w1 (intLen_le n).1 (intLen_le n).2)
  go_enter Try.func110, Try.ntmps110
  go_wp2
  go_loop [3] (fun i => ∃ k : Nat, 1 ≤ k ∧ k ≤ 8 ∧ i = .int .i64 k ∧ intLenF n (8 - k) k = intLen n) (fun i => 8 - (intOf i).toNat)
  case atStart => exact ⟨1, by omega, by omega, rfl, rfl⟩
  case round =>
    obtain ⟨k, hk1, hk2, rfl, hlen⟩ := hrel
    have ht : (8 * (k : Int) - 1).toNat = 8 * k - 1 := by omega
    by_cases hlt : k < 8
    · have hki : (k : Int) < 8 := by omega
      cases hw : wider n k
      · rw [intLenF_no n k hw] at hlen
        have HN2 := Lib.hid HN.out
        rw [← hlen] at HN2
        unfold wider at hw
        have hway : ((n / 2 ^ (8 * k - 1) != 0) = false) ∨ ((n / 2 ^ (8 * k - 1) != 0) = true ∧ (n / 2 ^ (8 * k - 1) != -1) = false) := by
          cases h1 : (n / 2 ^ (8 * k - 1) != 0)
          · exact .inl rfl
          · rw [h1] at hw
            exact .inr ⟨rfl, by simpa using hw⟩
        have HL := Lib.hid hlen
        clear hw hlen HN
        rcases hway with h1 | ⟨h1, h2⟩
        all_goals
          go_wp2_with (go_at_call 112; (with_reducible refine (HN2.out _).mono ?_); rintro e w1 ⟨a1, c1, he, x1, r1⟩; rw [numB_len] at he r1; subst he)
          go_ret
          rw [← HL.out]
          exact ⟨a1, c1, by rw [numB_len]; rfl, x1, by rw [numB_len]; exact r1⟩
      · have HL : Hid (intLenF n (8 - (k + 1)) (k + 1) = intLen n) := (intLenF_yes n k hlt hw).symm.trans hlen
        unfold wider at hw
        rw [Bool.and_eq_true] at hw
        obtain ⟨h1, h2⟩ := hw
        clear hlen
        go_wp2
        go_round
        case rel => exact ⟨k + 1, by omega, by omega, by go_num, HL.out⟩
        case measure => simp [intOf]; omega
    · have hki : ¬ (k : Int) < 8 := by omega
      have hl8 : k = intLen n := by
        rw [show 8 - k = 0 by omega] at hlen
        exact hlen
      have HN2 := Lib.hid HN.out
      rw [← hl8] at HN2
      have HL := Lib.hid hl8
      clear hl8 hlen HN
      go_wp2_with (go_at_call 112; (with_reducible refine (HN2.out _).mono ?_); rintro e w1 ⟨a1, c1, he, x1, r1⟩; rw [numB_len] at he r1; subst he)
      go_ret
      rw [← HL.out]
      exact ⟨a1, c1, by rw [numB_len]; rfl, x1, by rw [numB_len]; exact r1⟩
set_option maxRecDepth 100000 in
set_option maxHeartbeats 2000000 in
theorem integerR_any (n : Int) (w : World) : Calls Try.prog 73 #[.int .i64 n] w (RetB w (numB n (intLen n))) := by
  have HN := Lib.hid (fun w1 => bigR_any n (intLen n) w1 (intLen_le n).2)
  go_enter Try.func73, Try.ntmps73
  go_wp2
  go_loop [3] (fun i => ∃ k : Nat, 1 ≤ k ∧ k ≤ 8 ∧ i = .int .i64 k ∧ intLenF n (8 - k) k = intLen n) (fun i => 8 - (intOf i).toNat)
  case atStart => exact ⟨1, by omega, by omega, rfl, rfl⟩
  case round =>
    obtain ⟨k, hk1, hk2, rfl, hlen⟩ := hrel
    have ht : (8 * (k : Int) - 1).toNat = 8 * k - 1 := by omega
    by_cases hlt : k < 8
    · have hki : (k : Int) < 8 := by omega
      cases hw : wider n k
      · rw [intLenF_no n k hw] at hlen
        have HN2 := Lib.hid HN.out
        rw [← hlen] at HN2
        unfold wider at hw
        have hway : ((n / 2 ^ (8 * k - 1) != 0) = false) ∨ ((n / 2 ^ (8 * k - 1) != 0) = true ∧ (n / 2 ^ (8 * k - 1) != -1) = false) := by
          cases h1 : (n / 2 ^ (8 * k - 1) != 0)
          · exact .inl rfl
          · rw [h1] at hw
            exact .inr ⟨rfl, by simpa using hw⟩
        have HL := Lib.hid hlen
        clear hw hlen HN
        rcases hway with h1 | ⟨h1, h2⟩
        all_goals
          go_wp2_with (go_at_call 72; (with_reducible refine (HN2.out _).mono ?_); rintro e w1 ⟨a1, c1, he, x1, r1⟩; rw [numB_len] at he r1; subst he)
          go_ret
          rw [← HL.out]
          exact ⟨a1, c1, by rw [numB_len]; rfl, x1, by rw [numB_len]; exact r1⟩
      · have HL : Hid (intLenF n (8 - (k + 1)) (k + 1) = intLen n) := (intLenF_yes n k hlt hw).symm.trans hlen
        unfold wider at hw
        rw [Bool.and_eq_true] at hw
        obtain ⟨h1, h2⟩ := hw
        clear hlen
        go_wp2
        go_round
        case rel => exact ⟨k + 1, by omega, by omega, by go_num, HL.out⟩
        case measure => simp [intOf]; omega
    · have hki : ¬ (k : Int) < 8 := by omega
      have hl8 : k = intLen n := by
        rw [show 8 - k = 0 by omega] at hlen
        exact hlen
      have HN2 := Lib.hid HN.out
      rw [← hl8] at HN2
      have HL := Lib.hid hl8
      clear hl8 hlen HN
      go_wp2_with (go_at_call 72; (with_reducible refine (HN2.out _).mono ?_); rintro e w1 ⟨a1, c1, he, x1, r1⟩; rw [numB_len] at he r1; subst he)
      go_ret
      rw [← HL.out]
      exact ⟨a1, c1, by rw [numB_len]; rfl, x1, by rw [numB_len]; exact r1⟩
theorem dataTruth_any (n : Int) (w : World) : Calls Try.prog 107 #[.int .i64 n] w (RetB w (numB n 1)) := by
  have HF := Lib.hid (RetB.lit (w := w) (t := 5) (numB n 1) #[.int .u8 (n % 256)] 1 (by rw [numB_len]) (by rw [numB_one]; rfl) (numB_byt n 1) (by rw [numB_len]; omega))
  go_enter Try.func107, Try.ntmps107
  go_wp2
  go_ret
  exact HF.out
theorem tagTruth_any (x : Value) (w : World) : Calls Try.prog 108 #[x] w fun e w' => e = .returned (.int .i64 131) ∧ w = w' := by
  go_enter Try.func108, Try.ntmps108
  go_wp2
  go_ret
  exact ⟨rfl, rfl⟩
theorem tagWhole_any (x : Value) (w : World) : Calls Try.prog 111 #[x] w fun e w' => e = .returned (.int .i64 133) ∧ w = w' := by
  go_enter Try.func111, Try.ntmps111
  go_wp2
  go_ret
  exact ⟨rfl, rfl⟩
theorem tagBits_any (x : Value) (w : World) : Calls Try.prog 115 #[x] w fun e w' => e = .returned (.int .i64 132) ∧ w = w' := by
  go_enter Try.func115, Try.ntmps115
  go_wp2
  go_ret
  exact ⟨rfl, rfl⟩
theorem tagText_any (x : Value) (w : World) : Calls Try.prog 118 #[x] w fun e w' => e = .returned (.int .i64 138) ∧ w = w' := by
  go_enter Try.func118, Try.ntmps118
  go_wp2
  go_ret
  exact ⟨rfl, rfl⟩
theorem tagMoment_any (x y z : Value) (w : World) : Calls Try.prog 121 #[.agg #[x, y, z]] w fun e w' => e = .returned (.int .i64 145) ∧ Ext w w' := by
  go_enter Try.func121, Try.ntmps121
  go_wp2
  go_ret
  exact ⟨rfl, by repeat first | exact Ext.refl _ | apply Ext.alloc⟩
theorem below_bytes {w : World} {e : TypeId} {s : ByteArray} : Ext w (Lib.bytesWorld w e s) :=
  ⟨rfl, rfl, rfl, by rw [Lib.bytesWorld_size]; omega, fun k hk => Lib.bytesWorld_at_old w e s k hk⟩
theorem RetB.of_str {w : World} {s : ByteArray} (hs : s.size ≤ 65536) : RetB w (strB s) (.returned (.slice (some ⟨w.heap.size, 0, none⟩) s.size (grownCap w s.size 0 5))) (Lib.bytesWorld w 5 s) := by
  refine ⟨_, _, by rw [strB_len], below_bytes, fun V hV => ⟨strB_byt s, _, _, rfl, ?_, ?_, fun _ => ⟨w.heap.size, 0, rfl, fun h => by have := hV _ h; omega, fun j hj => ?_⟩⟩⟩
  · rw [strB_len]; exact grownCap_ge _ _ _ _
  · exact grownCap_le_maxLen _ _ _ _ (by unfold maxLen; omega)
  · rw [strB_len] at hj
    rw [Nat.zero_add, Lib.bytesWorld_cell w 5 s j hj]
    simp only [strB, List.getElem_map, List.getD_eq_getElem?_getD]
    rw [List.getElem?_eq_getElem (by simpa using hj)]
    rfl
theorem dataText_any (s : ByteArray) (w : World) (hs : s.size ≤ 65536) : Calls Try.prog 117 #[.string s] w (RetB w (strB s)) := by
  have HF := Lib.hid (RetB.of_str (w := w) hs)
  have hcv := fun W => Lib.run_convert_string_bytes (P := Try.prog) W 126 25 5 s Try.underlying126 Try.underlying25 Try.underlying5
  clear hs
  go_enter Try.func117, Try.ntmps117
  go_wp2
  go_ret
  exact HF.out
set_option maxRecDepth 100000 in
set_option maxHeartbeats 2000000 in
theorem dataMoment_any (a b c : Int) (w : World) : Calls Try.prog 120 #[.agg #[.int .i64 a, .int .i64 b, .int .i64 c]] w (RetB w (numB a 4 ++ numB b 3 ++ numB c 1)) := by
  obtain ⟨i0, hi0, hz0, hz1, hz2⟩ := info_parts info_byte
  have H4 := Lib.hid (fun w1 => numberP_own a 4 w1 (by omega) (by omega))
  have H3 := Lib.hid (fun w1 => numberP_own b 3 w1 (by omega) (by omega))
  have e4 := numB_len a 4
  have e3 := numB_len b 3
  have HF : Hid (∀ w' A c1, w'.ownsRow w.heap.size 5 1 (.slice A 8 c1) 8 ((numB a 4).map (Value.int .u8) ++ (numB b 3).map (Value.int .u8) ++ [.int .u8 (c % 256)]) → Ext w w' → RetB w (numB a 4 ++ numB b 3 ++ numB c 1) (.returned (.slice A 8 c1)) w') := fun w' A c1 ho he => by
    have hl : (numB a 4 ++ numB b 3 ++ numB c 1).length = 8 := by simp [numB_len]
    refine RetO.toB (Byt.append (Byt.append (numB_byt _ _) (numB_byt _ _)) (numB_byt _ _)) ⟨A, c1, by rw [hl], he, ?_⟩
    rw [hl, List.map_append, List.map_append, numB_one]
    exact ho
  have HY := Lib.hid (numB_byt b 3)
  generalize numB a 4 ++ numB b 3 ++ numB c 1 = zs at *
  generalize numB a 4 = xs at *
  generalize numB b 3 = ys at *
  have E4 := Lib.hid e4
  have E3 := Lib.hid e3
  clear e4 e3
  go_enter Try.func120, Try.ntmps120
  go_wp2_with fail
  refine (H4.out _).mono ?_
  rintro e w1 ⟨a1, c1, he, x1, o1⟩
  rw [E4.out] at he o1
  subst he
  have X1 : Ext w w1 := ((Ext.refl w).alloc _).trans x1
  have B1 := (Bk.new w #[.int .i64 a, .int .i64 b, .int .i64 c] 127 w.heap.size rfl).ext x1
  have q1 := B1.cell
  go_wp2_with fail
  refine (H3.out _).mono ?_
  rintro e w2 ⟨a2, c2, he, x2, o2⟩
  rw [E3.out] at he o2
  subst he
  have o12 := own_base (own_ext o1 x2) (base' := w.heap.size) (by simp)
  have hsrc : Src w2 1 a2 3 (ys.map (Value.int .u8)) := Src.bytes (V := Any) (RB.of_own (V := Any) (bs := ys) (by rw [E3.out]; exact o2) HY.out (fun _ h => h.elim))
  have X2 := X1.trans x2
  have B2 := Lib.hid (B1.ext x2)
  have HLB : Hid (∀ g, (Value.slice a1 4 c1).ownBlock = some g → w.heap.size < g) := fun g hg => by have := (o1.lt g hg).1; simp at this; omega
  clear q1 B1 o1 o2 x1 x2
  go_upto_region 3 with ((at_builtin; refine wpList_append_src _ rfl (.tmp 7) (.tmp 10) _ rfl w.heap.size 5 i0 _ 1 1 Try.underlying25 hi0 hz0 hz1 hz2 rfl (by omega) _ 4 _ rfl o12 _ 3 c2 _ rfl hsrc (by unfold maxLen; omega) (by omega) X2.size ?_; intro A3 c3 w3 hown3 hg3 hat3))
  have B3 : Bk w3 w.heap.size 127 #[.int .i64 a, .int .i64 b, .int .i64 c] := B2.out.agree (V := fun k => (Value.slice a1 4 c1).ownBlock = some k) (Agree.of_grown hg3 (fun k hk => hk)) (fun h => by have := HLB.out _ h; omega)
  have q3 := B3.cell
  have X3 : Ext w w3 := X2.grown hg3 (fun g hg => (o12.lt g hg).1)
  have O3 := Lib.hid hown3
  clear hown3 hg3 hat3 hsrc o12 X2 X1
  go_wp2_with (at_builtin; refine wpList_append_src _ rfl (.tmp 12) (.tmp 16) _ rfl w.heap.size 5 i0 _ 1 1 Try.underlying25 hi0 hz0 hz1 hz2 rfl (by omega) _ 7 _ rfl (O3.out.alloc _) _ 1 1 [.int .u8 (c % 256)] rfl (Src.litB _ #[.int .u8 (c % 256)] 5 1 _ (by simp) rfl (by simp [Value.oneCell'])) (by unfold maxLen; omega) (by omega) (by simp; exact Nat.le_succ_of_le X3.size) ?_; intro A4 c4 w4 hown4 hg4 hat4)
  have X4 : Ext w w4 := (X3.alloc _).grown hg4 (fun g hg => (O3.out.lt g hg).1)
  go_ret
  exact HF.out w4 _ _ hown4 X4
end Go.Proofs.Ytjaofbfppnmdjaa
