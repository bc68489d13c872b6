/- The contract of Decode of messages: layer 12, the program. -/
import Derived.Test.YtimnepfdpehdmaaTI
import Derived.Test.YtimnepfdpehdmaaTH
namespace Go.Proofs.Ytimnepfdpehdmaa
open Go.RowKit
attribute [local go_sem ↓] Go.wp_at_zero Go.wp_at_succ

/-- It returns a message or an error. -/
def RetDM (w : World) (bs : List Int) (e : Ending) (w' : World) : Prop :=
  ∃ (x : Msg) (u : Value) (er : Int), e = .returned (.tuple #[msgA x u, .int .i64 er]) ∧ Ext w w' ∧ RF Any 6 valE w' u x.vals ∧ (er = 0 → DecOk bs x) ∧ ∀ m, DecOk bs m → er = 0 ∧ x = m

theorem settle_rec (v : Value) : settle (.panicking [{ v := v, recovered := true }]) = .returning := rfl
set_option maxRecDepth 100000 in
/-- Decoding that ends by a refusal. -/
theorem dec_door {w W : World} {bs : List Int} {T : Array Value} {er x : Int} {cm : Array Value} (h2 : T[2]? = some (.pointer (some ⟨w.heap.size, 0, none⟩))) (h3 : T[3]? = some (.pointer (some ⟨w.heap.size + 1, 0, none⟩)))
    (B1 : Bk W w.heap.size 55 cm) (hs : cm.size = 10) (B2 : Bk W (w.heap.size + 1) 30 #[.int .i64 x]) (hX : Ext w W) (he : er ≠ 0) (hno : ∀ m, ¬ DecOk bs m) :
    bodyPostD Try.prog Try.f27 (RetDM w bs) (Exit.panic [refusal er]) { tmps := T, defers := [{ target := .fn (.func 45) #[.pointer (some ⟨w.heap.size, 0, none⟩), .pointer (some ⟨w.heap.size + 1, 0, none⟩)], args := #[] }] } W := by
  refine leaves_cons (f := 45) (args := #[.pointer (some ⟨w.heap.size, 0, none⟩), .pointer (some ⟨w.heap.size + 1, 0, none⟩)]) (by simp) (by simp [go_sem]) ?_
  refine (dec1_panic w.heap.size er x [] cm W B1 hs B2).mono ?_
  rintro e u' w2 ⟨rfl, rfl, C1, C2, CX⟩
  show Leaves Try.prog Try.f27 T (RetDM w bs) [] .returning w2
  refine ⟨.tuple #[.agg #[.int .i64 0, .int .i64 0, .int .i64 0, .int .i64 0, .int .i64 0, .int .i64 0, .int .i64 0, .bool false, .int .i64 0, .slice none 0 0], .int .i64 er], ?_, ⟨⟨0, 0, 0, 0, 0, 0, 0, false, 0, []⟩, .slice none 0 0, er, rfl, CX w (Nat.le_refl _) hX, RF.nil _ _ _ _, fun h => absurd h he, fun m hm => absurd hm (hno m)⟩⟩
  have c1 := C1.cell
  have c2 := C2.cell
  simp [results, Try.results27, go_sem, h2, h3, c1, c2]
/-- Decoding that ends well. -/
theorem dec_door_ok {w W : World} {bs : List Int} {T : Array Value} {z1 z2 z3 z4 z5 z6 z7 : Int} {z8 : Bool} {z9 : Int} {u : Value} {VL : List Val} (h2 : T[2]? = some (.pointer (some ⟨w.heap.size, 0, none⟩))) (h3 : T[3]? = some (.pointer (some ⟨w.heap.size + 1, 0, none⟩)))
    (B1 : Bk W w.heap.size 55 #[.int .i64 z1, .int .i64 z2, .int .i64 z3, .int .i64 z4, .int .i64 z5, .int .i64 z6, .int .i64 z7, .bool z8, .int .i64 z9, u]) (B2 : Bk W (w.heap.size + 1) 30 #[.int .i64 0]) (hX : Ext w W) (hR : RF Any 6 valE W u VL)
    (hok : DecOk bs ⟨z1, z2, z3, z4, z5, z6, z7, z8, z9, VL⟩) (huq : ∀ m, DecOk bs m → m = ⟨z1, z2, z3, z4, z5, z6, z7, z8, z9, VL⟩) :
    bodyPostD Try.prog Try.f27 (RetDM w bs) Exit.ret { tmps := T, defers := [{ target := .fn (.func 45) #[.pointer (some ⟨w.heap.size, 0, none⟩), .pointer (some ⟨w.heap.size + 1, 0, none⟩)], args := #[] }] } W := by
  refine leaves_cons (f := 45) (args := #[.pointer (some ⟨w.heap.size, 0, none⟩), .pointer (some ⟨w.heap.size + 1, 0, none⟩)]) (by simp) (by simp [go_sem]) ?_
  refine (dec1_idle _ _ W).mono ?_
  rintro e u' w2 ⟨rfl, rfl, rfl⟩
  show Leaves Try.prog Try.f27 T (RetDM w bs) [] .returning w2
  refine ⟨.tuple #[.agg #[.int .i64 z1, .int .i64 z2, .int .i64 z3, .int .i64 z4, .int .i64 z5, .int .i64 z6, .int .i64 z7, .bool z8, .int .i64 z9, u], .int .i64 0], ?_, ⟨⟨z1, z2, z3, z4, z5, z6, z7, z8, z9, VL⟩, u, 0, rfl, hX, hR, fun _ => hok, fun m hm => ⟨rfl, (huq m hm).symm⟩⟩⟩
  have c1 := B1.cell
  have c2 := B2.cell
  simp [results, Try.results27, go_sem, h2, h3, c1, c2]
theorem Agree.setNew {V : Nat → Prop} {a w : World} (h : Agree V a w) {p : Addr} (hp : a.heap.size ≤ p.block) (u : Value) : Agree V a (w.setCell p u) :=
  ⟨by simpa [World.setCell] using h.size, fun k hk hv => (Below.heap_setCell _ _ _ _ (fun e => by omega)).trans (h.block k hk hv)⟩
theorem Agree.putNew {V : Nat → Prop} {a : World} {B : Nat} (hB : a.heap.size ≤ B) : ∀ (vs : List Value) (j : Nat) (w : World), Agree V a w → Agree V a (put w B j vs)
  | [], _, _, h => h
  | v :: vs, j, w, h => by rw [put]; exact Agree.putNew hB vs (j + 1) _ (h.setNew (p := ⟨B, j, none⟩) hB v)
theorem put_cells (cs VS : List Value) (q : Nat) (hq : q + VS.length ≤ cs.length) : (∀ p, p < VS.length → (cs.take q ++ VS ++ cs.drop (q + VS.length)).toArray[q + p]? = VS[p]?) ∧ (∀ i, i < q → (cs.take q ++ VS ++ cs.drop (q + VS.length)).toArray[i]? = cs[i]?) ∧ (cs.take q ++ VS ++ cs.drop (q + VS.length)).toArray.size = cs.length := by
  have hl : (cs.take q).length = q := by rw [List.length_take]; omega
  refine ⟨fun p hp => ?_, fun i hi => ?_, ?_⟩
  · rw [List.getElem?_toArray, List.append_assoc, List.getElem?_append_right (by omega), hl, show q + p - q = p by omega, List.getElem?_append_left hp]
  · rw [List.getElem?_toArray, List.append_assoc, List.getElem?_append_left (by omega), List.getElem?_take, if_pos hi]
  · simp
    omega
theorem put_six {w : World} {B : Nat} {t : TypeId} {cs : Array Value} (x : Val) (q : Nat) (hq : q + 6 ≤ cs.size) (h : Bk w B t cs) : ∃ cs2 : Array Value, Bk (put w B q (valE x)) B t cs2 ∧ cs2.size = cs.size ∧ (∀ p u, (valE x)[p]? = some u → cs2[q + p]? = some u) ∧ ∀ i, i < q → cs2[i]? = cs[i]? := by
  have hlen : q + (valE x).length ≤ cs.toList.length := by rw [Array.length_toList]; exact hq
  obtain ⟨c1, c2, c3⟩ := put_cells cs.toList (valE x) q hlen
  refine ⟨_, put_at (valE x) cs.toList q w (by simpa using h) hlen, by rw [c3, Array.length_toList], fun p u hu => ?_, fun i hi => ?_⟩
  · rw [c1 p (get_lt hu)]
    exact hu
  · rw [c2 i hi, Array.getElem?_toList]
theorem leaves_congr {P : Program} {fn : Func} {T T' : Array Value} {R : Ending → World → Prop} (h : results fn T = results fn T') : ∀ (ds : List Deferred) (u : FrameMode) (w : World), Leaves P fn T R ds u w = Leaves P fn T' R ds u w
  | [], .returning, w => by simp only [Leaves, h]
  | [], .panicking _, w => rfl
  | [], .run, w => rfl
  | d :: ds, u, w => by
    simp only [Leaves, leaves_congr h ds]
theorem dec_results (T : Array Value) (d : Nat) (v : Value) (h2 : d ≠ 2) (h3 : d ≠ 3) : results Try.f27 (T.setIfInBounds d v) = results Try.f27 T := by
  have e2 : (T.setIfInBounds d v)[2]? = T[2]? := Array.getElem?_setIfInBounds_ne h2
  have e3 : (T.setIfInBounds d v)[3]? = T[3]? := Array.getElem?_setIfInBounds_ne h3
  simp [results, Try.results27, e2, e3]
theorem dec_hangs {R : Ending → World → Prop} (d : Nat) (h2 : d ≠ 2) (h3 : d ≠ 3) (v : Value) (c : List PanicEntry) (a : Act) (w : World) (h : bodyPostD Try.prog Try.f27 R (.panic c) (a.put (some d) v) w) : bodyPostD Try.prog Try.f27 R (.panic c) a w := by
  have e := leaves_congr (P := Try.prog) (R := R) (dec_results a.tmps d v h2 h3) a.defers (.panicking c) w
  exact Eq.mp e h
theorem kindH_in (k : Nat) (hk : k < 7) : kindH k = 1 ∨ kindH k = 2 ∨ kindH k = 5 := by
  obtain rfl | rfl | rfl | rfl | rfl | rfl | rfl : k = 0 ∨ k = 1 ∨ k = 2 ∨ k = 3 ∨ k = 4 ∨ k = 5 ∨ k = 6 := by omega
  all_goals decide
def zeroH : Val := ⟨0, 0, noStr, 0, 0, 0⟩
theorem wp_alloc_gen {P : Program} {c : Code} {Q : Exit → Act → World → Prop} {a : Act} {w : World} {cs : Array Value} {t : TypeId} (n : Nat) (hn : cs.size = n) (h : ∀ w4 cs', Bk w4 w.heap.size t cs' → cs'.size = n → Ext w w4 → c.wp P Q a w4) : c.wp P Q a (w.alloc (.cells cs t)) := h _ cs (Bk.new w cs t _ rfl) hn ((Ext.refl w).alloc _)
open Classical in
set_option maxRecDepth 100000 in
set_option maxHeartbeats 16000000 in
theorem decMP_any (bs : List Int) (v : Value) (w : World) (h : RB Any w v bs) : Calls Try.prog 27 #[v] w (RetDM w bs) := by
  have hmf : ∀ (fn : Fn) (first cap : Array Value) (w : World), (Instr.makeFunc fn first cap).run Try.prog w = .ok (.func fn first cap) w := fun _ _ _ _ => rfl
  have HD := Lib.hid (fun w1 (he : Ext w w1) => decodeP_any 7 bs v w1 (by omega) (h.ext he))
  have HBY := Lib.hid h.byt
  obtain ⟨a, c, rfl, _, _⟩ := h.form
  by_cases h0 : (decTop 7 bs).2 = 0
  · have hdt : decTop 7 bs = ((decTop 7 bs).1, 0) := by rw [← h0]
    generalize hL : ((decTop 7 bs).1 : List (Nd 7)) = l at *
    have HDT := Lib.hid hdt
    rw [hdt] at HD
    have HRO := Lib.hid (fun w1 => refuse_ok w1)
    have HR15 := Lib.hid (fun w1 => refuse_bad 15 (by decide) w1)
    generalize bs.length = n at *
    clear h h0 hL hdt
    have HDQ : Hid (∀ W, Ext w W → Calls Try.prog 46 #[.slice a n c] W fun e w' => ∃ a2 c2, e = .returned (.tuple #[.slice a2 l.length c2, .int .i64 0]) ∧ Ext W w' ∧ (nodesRk (RkN 6)).rk (Old W) w' (.slice a2 l.length c2) l) := fun W hW =>
      (HD.out W hW).mono fun e w' ⟨a2, c2, he, hx, hr⟩ => ⟨a2, c2, he, hx, hr (Old W) (fun k hk => hk)⟩
    clear HD
    obtain ⟨ln, hln⟩ : ∃ ln, l.length = ln := ⟨_, rfl⟩
    have HLN := Lib.hid hln
    rw [hln] at HDQ
    clear hln
    go_enter_defers Try.func27, Try.ntmps27
    go_upto_region 1 with fail
    have B1 := (Bk.new w #[.int .i64 0, .int .i64 0, .int .i64 0, .int .i64 0, .int .i64 0, .int .i64 0, .int .i64 0, .bool false, .int .i64 0, .slice none 0 0] 55 w.heap.size rfl).alloc (.cells #[.int .i64 0] 30)
    have B2 := Bk.new (w.alloc (.cells #[.int .i64 0, .int .i64 0, .int .i64 0, .int .i64 0, .int .i64 0, .int .i64 0, .int .i64 0, .bool false, .int .i64 0, .slice none 0 0] 55)) #[.int .i64 0] 30 (w.heap.size + 1) (by simp)
    have X0 : Ext w ((w.alloc (.cells #[.int .i64 0, .int .i64 0, .int .i64 0, .int .i64 0, .int .i64 0, .int .i64 0, .int .i64 0, .bool false, .int .i64 0, .slice none 0 0] 55)).alloc (.cells #[.int .i64 0] 30)) := ((Ext.refl w).alloc _).alloc _
    generalize (w.alloc (.cells #[.int .i64 0, .int .i64 0, .int .i64 0, .int .i64 0, .int .i64 0, .int .i64 0, .int .i64 0, .bool false, .int .i64 0, .slice none 0 0] 55)).alloc (.cells #[.int .i64 0] 30) = W at *
    go_wp2_with fail
    refine (HDQ.out W X0).mono ?_
    rintro e w2 ⟨a2, c2, rfl, x2, r2⟩
    have C1 := B1.ext x2
    have C2 := B2.ext x2
    have X2 := X0.trans x2
    have q2 : ∀ j, w2.cell? ⟨w.heap.size + 1, j, none⟩ = (#[.int .i64 0] : Array Value)[j]? := C2.cell
    have f2 := fun j => C2.frozen j
    have HO1 : Hid (Old W w.heap.size) := B1.lt
    have HO2 : Hid (Old W (w.heap.size + 1)) := B2.lt
    have HR2 := Lib.hid r2
    clear B1 B2 X0 x2 r2 HDQ
    go_upto_region 3 with fail
    have D1 := C1.setOther (B' := w.heap.size + 1) (by omega) 0 (.int .i64 0)
    have D2 : Bk (w2.setCell ⟨w.heap.size + 1, 0, none⟩ (.int .i64 0)) (w.heap.size + 1) 30 #[.int .i64 0] := C2.setCell 0 _
    have X3 : Ext w (w2.setCell ⟨w.heap.size + 1, 0, none⟩ (.int .i64 0)) := X2.setCell (Nat.le_succ _) _
    have A3 : Agree (Old W) w2 (w2.setCell ⟨w.heap.size + 1, 0, none⟩ (.int .i64 0)) := agree_setCell (p := ⟨w.heap.size + 1, 0, none⟩) HO2.out _
    generalize w2.setCell ⟨w.heap.size + 1, 0, none⟩ (.int .i64 0) = w3 at *
    have q3 : ∀ j, w3.cell? ⟨w.heap.size + 1, j, none⟩ = (#[.int .i64 0] : Array Value)[j]? := D2.cell
    clear q2 f2 C1 C2 X2
    go_wp2_with fail
    refine (HRO.out w3).mono ?_
    rintro e w4 ⟨rfl, rfl⟩
    by_cases h1 : ln = 1
    · subst h1
      obtain ⟨x, hx⟩ : ∃ x, l = [x] := by
        match l, HLN.out with
        | [x], _ => exact ⟨x, rfl⟩
      subst hx
      obtain ⟨t, dd, kids0⟩ := x
      obtain ⟨kids, hkids⟩ : ∃ k : List (NodeOf (Nd 5)), k = kids0 := ⟨kids0, rfl⟩
      subst hkids
      have HR3 := Lib.hid ((nodesRk (RkN 6)).agree HR2.out A3)
      obtain ⟨b, off, cc, da, dc, ka, kc, hv, _, _, g0, _, g2, _, hk⟩ := node_at HR3.out (i := 0) Nat.one_pos
      have hk' : (nodesRk (RkN 5)).rk (Old W) w3 (.slice ka (kids : List (NodeOf (Nd 5))).length kc) kids := hk
      have g0' : w3.cell? ⟨b, off + 0 * 3, none⟩ = some (.int .i64 t) := g0
      have g2' : w3.cell? ⟨b, off + 0 * 3 + 2, none⟩ = some (.slice ka (kids : List (NodeOf (Nd 5))).length kc) := g2
      simp only [Nat.zero_mul, Nat.add_zero] at g0' g2'
      have hv' : Value.slice a2 1 c2 = .slice (some ⟨b, off, none⟩) 1 cc := hv
      simp only [Value.slice.injEq, true_and] at hv'
      obtain ⟨rfl, rfl⟩ := hv'
      clear g0 g2 hk HR3 HR2 hv
      by_cases ht : t = 97
      · subst ht
        have HORD := Lib.hid (ordered_any (RkN 5) kids _ w3 hk')
        by_cases ho : ordOk (kids : List (NodeOf (Nd 5)))
        · rw [decide_eq_true ho] at HORD
          have h8 : (kids : List (NodeOf (Nd 5))).length = 8 := ho.1
          rw [h8] at HORD g2' hk'
          have HK3 := Lib.hid hk'
          clear hk'
          go_wp2_with fail
          refine HORD.out.mono ?_
          rintro e w5 ⟨rfl, rfl⟩
          go_upto_region 8 with fail
          refine wp_alloc_gen 42 rfl ?_
          intro w4 Z7 LB hz7 hx4
          have D1' := D1.ext hx4
          have D2' := D2.ext hx4
          have X4 := X3.trans hx4
          have A4 := hx4.agree (Old W)
          have HL4 : Hid (w.heap.size + 1 < w3.heap.size) := D2.lt
          clear D1 D2 A3 hx4 X3 g0' g2' q3
          have HHD : Hid (∀ w1, Calls Try.prog 30 #[.agg #[.int .i64 0, .int .i64 0, .int .i64 0, .int .i64 0, .int .i64 0, .int .i64 0, .int .i64 0, .bool false, .int .i64 0, .slice none 0 0]] w1 (RetV w1 (headM ⟨0, 0, 0, 0, 0, 0, 0, false, 0, []⟩))) := fun w1 => header_any ⟨0, 0, 0, 0, 0, 0, 0, false, 0, []⟩ (.slice none 0 0) w1
          have HKH : Hid (∀ (k : Nat) x, (headM ⟨0, 0, 0, 0, 0, 0, 0, false, 0, []⟩)[k]? = some x → x.kind = kindH k) := fun k x hx => by
            have hk := get_lt hx
            have hk7 : k < 7 := hk
            obtain rfl | rfl | rfl | rfl | rfl | rfl | rfl : k = 0 ∨ k = 1 ∨ k = 2 ∨ k = 3 ∨ k = 4 ∨ k = 5 ∨ k = 6 := by omega
            all_goals
              injection hx with hx
              rw [← hx]
              rfl
          have HL7 : Hid ((headM ⟨0, 0, 0, 0, 0, 0, 0, false, 0, []⟩).length = 7) := rfl
          generalize headM ⟨0, 0, 0, 0, 0, 0, 0, false, 0, []⟩ = HM at *
          go_wp2_with fail
          refine (HHD.out w4).mono ?_
          rintro e w5 ⟨a7, c7, he, x5, r5⟩
          rw [HL7.out] at he r5
          subst he
          have HR5 := Lib.hid (r5.weak (V' := fun k => k = w3.heap.size) (by omega) (fun g _ hg => by subst hg; exact LB.lt))
          have LB5 := LB.ext x5
          have D15 := Lib.hid (D1'.ext x5)
          have D25 := Lib.hid (D2'.ext x5)
          have X5 := X4.trans x5
          have A5 := A4.trans (x5.agree (Old W))
          clear r5 LB D1' D2' X4 A4 x5 HHD
          generalize hLN : w3.heap.size = L at *
          have HLN3 := Lib.hid hLN
          clear hLN
          go_wp2_with fail
          go_loopw [44] (fun i wr => ∃ (k : Nat) (cs : Array Value) (vv : Nat → Val), k ≤ 7 ∧ i = .int .i64 k ∧ Bk wr L 123 cs ∧ cs.size = 42 ∧ (∀ j : Nat, j < k → rdH kids j = some (vv j) ∧ ∀ p u, (valE (vv j))[p]? = some u → cs[j * 6 + p]? = some u) ∧ Agree (fun k => k = L) w5 wr ∧ Agree (Old W) w3 wr ∧ Ext w wr) (fun i _ => 7 - (intOf i).toNat)
          case atStart => exact ⟨0, Z7, fun _ => zeroH, by omega, rfl, LB5, hz7, fun j h => by omega, Agree.refl _ _, A5, X5⟩
          case round =>
            obtain ⟨k, cs, vv, hk, rfl, hlb, hcs, hall, hah, han, hx⟩ := hrel
            have HALL := Lib.hid hall
            have HAH := Lib.hid hah
            have HAN := Lib.hid han
            have HX := Lib.hid hx
            have HLB := Lib.hid hlb
            have HCS := Lib.hid hcs
            have DR1 := Lib.hid (D15.out.agree hah (by have := HL4.out; omega))
            have DR2 := Lib.hid (D25.out.agree hah (by have := HL4.out; omega))
            by_cases hlt : k < 7
            · have hki : (k : Int) < 7 := by omega
              have hki8 : (k : Int) < 8 := by omega
              have hki0 : (0 : Int) ≤ k := by omega
              obtain ⟨xv, hxv⟩ : ∃ x, HM[k]? = some x := ⟨_, List.getElem?_eq_getElem (by rw [HL7.out]; exact hlt)⟩
              obtain ⟨bh, oh, ch, hv, p0, p1, p2, p3, p4, p5⟩ := val_get (HR5.out.agree hah) hxv
              rw [HL7.out] at hv
              simp only [Value.slice.injEq] at hv
              obtain ⟨rfl, -, rfl⟩ := hv
              have hkk := HKH.out k xv hxv
              obtain ⟨xn, hxn⟩ : ∃ x, (kids : List (NodeOf (Nd 5)))[k]? = some x := ⟨_, List.getElem?_eq_getElem (by rw [h8]; omega)⟩
              obtain ⟨bn, on, cn, da, dc, ka2, kc2, hv2, _, _, n0, n1, n2, hdn, _⟩ := node_at ((nodesRk (RkN 5)).agree HK3.out han) (i := k) (by rw [h8]; omega)
              obtain ⟨bn3, on3, cn3, da3, dc3, ka3, kc3, hv3, _, _, m0, _, _, _, _⟩ := node_at HK3.out (i := k) (by rw [h8]; omega)
              have hbn3 := World.block_lt_of_cell? _ _ m0
              rw [h8, hv2] at hv3
              rw [h8] at hv3
              simp only [Value.slice.injEq, Option.some.injEq, Addr.mk.injEq, and_true, true_and] at hv3
              have hbL : bn < L := by rw [← HLN3.out, hv3.1.1]; exact hbn3
              have hLr : L < wr.heap.size := hlb.lt
              clear m0 hv3 hbn3
              obtain ⟨hkl, hxe⟩ := List.getElem?_eq_some_iff.1 hxn
              rw [hxe] at n0 n1 n2 hdn
              rw [h8] at hv2
              simp only [Value.slice.injEq] at hv2
              obtain ⟨rfl, -, rfl⟩ := hv2
              have hrd : rdH kids k = readV (tagV (bareV (kindH k))) xn.2.1 := by unfold rdH; rw [hxn]; rfl
              have HFD := Lib.hid (fun w1 (he : Ext wr w1) => field_any (kindH k) (kindH_in k hlt) xn.1 xn.2.1 (.slice da xn.2.1.length dc) (.slice ka2 xn.2.2.length kc2) w1 (hdn.ext he))
              rw [← hrd] at HFD
              obtain ⟨t, D, ks⟩ := xn
              simp only at *
              generalize D.length = dl at *
              generalize ks.length = kl at *
              obtain ⟨pk, pn, ps, pa, pb, pc⟩ := xv
              simp only at hkk
              subst hkk
              simp only at *
              generalize kindH k = pk at *
              have e0 : ∀ j, j < 6 → ∃ u, cs[k * 6 + j]? = some u := fun j hj => ⟨_, Array.getElem?_eq_getElem (show k * 6 + j < cs.size by omega)⟩
              obtain ⟨u0, eu0⟩ := e0 0 (by omega)
              obtain ⟨u1, eu1⟩ := e0 1 (by omega)
              obtain ⟨u2, eu2⟩ := e0 2 (by omega)
              obtain ⟨u3, eu3⟩ := e0 3 (by omega)
              obtain ⟨u4, eu4⟩ := e0 4 (by omega)
              obtain ⟨u5, eu5⟩ := e0 5 (by omega)
              have HU := Lib.hid (And.intro eu0 (And.intro eu1 (And.intro eu2 (And.intro eu3 (And.intro eu4 eu5)))))
              clear hall hlb hcs hxv hxn hxe hkl hrd hdn e0 eu0 eu1 eu2 eu3 eu4 eu5
              go_upto_region 11 with fail
              have PB := Bk.new wr #[.int .i64 pk, .int .i64 pn, .string ps, .int .i64 pa, .int .i64 pb, .int .i64 pc] 78 wr.heap.size rfl
              have hw6 : Ext wr (wr.alloc (.cells #[.int .i64 pk, .int .i64 pn, .string ps, .int .i64 pa, .int .i64 pb, .int .i64 pc] 78)) := (Ext.refl wr).alloc _
              generalize wr.alloc (.cells #[.int .i64 pk, .int .i64 pn, .string ps, .int .i64 pa, .int .i64 pb, .int .i64 pc] 78) = w6 at *
              have HSB : Hid (∀ w', Ext w6 w' → w'.cell? ⟨wr.heap.size, 0, none⟩ = some (.int .i64 pk) ∧ w'.cell? ⟨bn, on + k * 3, none⟩ = some (.int .i64 t) ∧ w'.cell? ⟨bn, on + k * 3 + 1, none⟩ = some (.slice da dl dc) ∧ w'.cell? ⟨bn, on + k * 3 + 2, none⟩ = some (.slice ka2 kl kc2)) := fun w' he => ⟨(PB.ext he).cell 0, he.cell (hw6.cell n0), he.cell (hw6.cell n1), he.cell (hw6.cell n2)⟩
              have HF6 := Lib.hid (HFD.out w6.drew hw6.drew)
              cases hrv : rdH kids k with
              | none =>
                rw [hrv] at HF6
                have HNO : Hid (∀ m, ¬ DecOk bs m) := fun m hm => by
                  obtain ⟨dd', kids', ht, _, hh, _⟩ := hm.top
                  rw [HDT.out] at ht
                  injection ht with ht _
                  injection ht with ht _
                  injection ht with _ ht
                  injection ht with _ ht
                  subst ht
                  have := hh k hlt
                  rw [hrv] at this
                  have hl : k < (headM m).length := hlt
                  rw [List.getElem?_eq_getElem hl] at this
                  cases this
                have HF7 : Hid (Calls Try.prog 49 #[.agg #[.int .i64 t, .slice da dl dc, .slice ka2 kl kc2], .int .i64 pk] w6.drew fun e w' => e = .panicked [refusal 16] ∧ Ext w6.drew w') := Lib.hid (HF6.out.mono fun e w' h => ⟨h.2, h.1⟩)
                clear hrv HF6 HFD n0 n1 n2 p0 p1 p2 p3 p4 p5 PB
                refine wp_region_held (S := (fun w' => w'.cell? ⟨wr.heap.size, 0, none⟩ = some (.int .i64 pk) ∧ w'.cell? ⟨bn, on + k * 3, none⟩ = some (.int .i64 t) ∧ w'.cell? ⟨bn, on + k * 3 + 1, none⟩ = some (.slice da dl dc) ∧ w'.cell? ⟨bn, on + k * 3 + 2, none⟩ = some (.slice ka2 kl kc2))) (by kernel_rfl) ?_
                have hS0 := HSB.out _ (Ext.refl w6).drew
                refine wpAnyH_take (i := 0) (v := .int .i64 k) rfl (by kernel_rfl) (by kernel_rfl) (by kernel_rfl) (fun c a w h => dec_hangs 49 (by decide) (by decide) _ c a w h) (Or.inl ⟨by rfl, fun w hSw => ?_⟩) hS0 ?_
                · (try dsimp only at hSw); go_split_ands; go_simp
                simp only [Act.put, List.setIfInBounds_toArray]
                refine wpAnyH_take (i := 1) (v := .slice (some ⟨bn, on, none⟩) 8 kc) rfl (by kernel_rfl) (by kernel_rfl) (by kernel_rfl) (fun c a w h => dec_hangs 50 (by decide) (by decide) _ c a w h) (Or.inl ⟨by rfl, fun w hSw => ?_⟩) hS0 ?_
                · (try dsimp only at hSw); go_split_ands; go_simp
                simp only [Act.put]
                refine wpAnyH_take (i := 2) (v := .int .i64 k) rfl (by kernel_rfl) (by kernel_rfl) (by kernel_rfl) (fun c a w h => dec_hangs 51 (by decide) (by decide) _ c a w h) (Or.inl ⟨by rfl, fun w hSw => ?_⟩) hS0 ?_
                · (try dsimp only at hSw); go_split_ands; go_simp
                simp only [Act.put]
                refine wpAnyH_take (i := 3) (v := .pointer (some ⟨bn, on + k * 3, none⟩)) rfl (by kernel_rfl) (by kernel_rfl) (by kernel_rfl) (fun c a w h => dec_hangs 52 (by decide) (by decide) _ c a w h) (Or.inl ⟨by rfl, fun w hSw => ?_⟩) hS0 ?_
                · (try dsimp only at hSw); go_split_ands; go_simp
                simp only [Act.put]
                refine wpAnyH_take (i := 4) (v := .agg #[.int .i64 t, .slice da dl dc, .slice ka2 kl kc2]) rfl (by kernel_rfl) (by kernel_rfl) (by kernel_rfl) (fun c a w h => dec_hangs 53 (by decide) (by decide) _ c a w h) (Or.inl ⟨by rfl, fun w hSw => ?_⟩) hS0 ?_
                · (try dsimp only at hSw); go_split_ands; go_simp
                simp only [Act.put]
                refine wpAnyH_take (i := 5) (v := .pointer (some ⟨wr.heap.size, 0, none⟩)) rfl (by kernel_rfl) (by kernel_rfl) (by kernel_rfl) (fun c a w h => dec_hangs 54 (by decide) (by decide) _ c a w h) (Or.inl ⟨by rfl, fun w hSw => ?_⟩) hS0 ?_
                · (try dsimp only at hSw); go_split_ands; go_simp
                simp only [Act.put]
                refine wpAnyH_take (i := 6) (v := .int .i64 pk) rfl (by kernel_rfl) (by kernel_rfl) (by kernel_rfl) (fun c a w h => dec_hangs 55 (by decide) (by decide) _ c a w h) (Or.inl ⟨by rfl, fun w hSw => ?_⟩) hS0 ?_
                · (try dsimp only at hSw); go_split_ands; go_simp
                simp only [Act.put]
                refine wpAnyH_ready (rs := [7]) (by kernel_rfl) (by simp) ?_
                refine AllReadyH.cons rfl (fun K hK => ?_) AllReadyH.nil
                go_simp
                refine HF7.out.mono ?_
                rintro e y1 ⟨rfl, t1⟩
                have G1 : Ext w6 y1 := (Ext.refl w6).drew.trans t1
                exact dec_door rfl rfl (DR1.out.ext (hw6.trans G1)) rfl (DR2.out.ext (hw6.trans G1)) ((HX.out.trans hw6).trans G1) (by decide) HNO.out
              | some y =>
                rw [hrv] at HF6
                have HRV := Lib.hid hrv
                obtain ⟨vk, vn, vs, va, vb, vc⟩ := y
                have HF7 : Hid (Calls Try.prog 49 #[.agg #[.int .i64 t, .slice da dl dc, .slice ka2 kl kc2], .int .i64 pk] w6.drew fun e w' => e = .returned (.agg #[.int .i64 vk, .int .i64 vn, .string vs, .int .i64 va, .int .i64 vb, .int .i64 vc]) ∧ Ext w6.drew w') := Lib.hid (HF6.out.mono fun e w' h => ⟨h.2, h.1⟩)
                have HLW := Lib.hid (fun w' (he : Ext wr w') => HLB.out.ext he)
                clear hrv HF6 HFD n0 n1 n2 p0 p1 p2 p3 p4 p5 PB
                go_region_held3 (fun w' => w'.cell? ⟨wr.heap.size, 0, none⟩ = some (.int .i64 pk) ∧ w'.cell? ⟨bn, on + k * 3, none⟩ = some (.int .i64 t) ∧ w'.cell? ⟨bn, on + k * 3 + 1, none⟩ = some (.slice da dl dc) ∧ w'.cell? ⟨bn, on + k * 3 + 2, none⟩ = some (.slice ka2 kl kc2))
                  (first | (exact HSB.out _ (by first | (with_reducible exact Ext.refl w6) | (with_reducible exact (Ext.refl w6).drew) | (with_reducible exact G1))) | (exact ⟨by (repeat rw [World.cell?_setCell_other _ _ _ _ (by intro h; injection h; omega)]); exact (HSB.out _ G1).1, by (repeat rw [World.cell?_setCell_other _ _ _ _ (by intro h; injection h; omega)]); exact (HSB.out _ G1).2.1, by (repeat rw [World.cell?_setCell_other _ _ _ _ (by intro h; injection h; omega)]); exact (HSB.out _ G1).2.2.1, by (repeat rw [World.cell?_setCell_other _ _ _ _ (by intro h; injection h; omega)]); exact (HSB.out _ G1).2.2.2⟩) | fail)
                  (first
                    | (go_at_call 49; (with_reducible refine HF7.out.mono ?_); rintro e y1 ⟨rfl, t1⟩; have G1 : Ext w6 y1 := (Ext.refl w6).drew.trans t1; have LY := HLW.out _ (hw6.trans G1); have l0 : y1.cell? ⟨L, k * 6, none⟩ = some u0 := (LY.cell (k * 6)).trans HU.out.1; have l1 : y1.cell? ⟨L, k * 6 + 1, none⟩ = some u1 := (LY.cell _).trans HU.out.2.1; have l2 : y1.cell? ⟨L, k * 6 + 2, none⟩ = some u2 := (LY.cell _).trans HU.out.2.2.1; have l3 : y1.cell? ⟨L, k * 6 + 3, none⟩ = some u3 := (LY.cell _).trans HU.out.2.2.2.1; have l4 : y1.cell? ⟨L, k * 6 + 4, none⟩ = some u4 := (LY.cell _).trans HU.out.2.2.2.2.1; have l5 : y1.cell? ⟨L, k * 6 + 5, none⟩ = some u5 := (LY.cell _).trans HU.out.2.2.2.2.2; have lf := fun j => LY.frozen j; clear t1)
                    | fail)
                change Exit.inBlock 1 _ Exit.normal _ (put y1 L (k * 6) (valE ⟨vk, vn, vs, va, vb, vc⟩))
                obtain ⟨cs2, LP, hc2, hp1, hp2⟩ := put_six ⟨vk, vn, vs, va, vb, vc⟩ (k * 6) (by rw [HCS.out]; omega) LY
                have hwL : w.heap.size ≤ L := by have := HL4.out; omega
                have XP := put_ext hwL (valE ⟨vk, vn, vs, va, vb, vc⟩) (k * 6) y1 ((HX.out.trans hw6).trans G1)
                have AHP : Agree (fun k => k = L) w5 (put y1 L (k * 6) (valE ⟨vk, vn, vs, va, vb, vc⟩)) := (HAH.out.trans ((hw6.trans G1).agree _)).trans (agree_put (V := fun k => k = L) (B := L) rfl _ _ _)
                have ANP : Agree (Old W) w3 (put y1 L (k * 6) (valE ⟨vk, vn, vs, va, vb, vc⟩)) := Agree.putNew (Nat.le_of_eq HLN3.out) _ _ _ (HAN.out.trans ((hw6.trans G1).agree _))
                have HPC : Hid (∀ (j : Nat), j < k + 1 → rdH kids j = some (if j = k then ⟨vk, vn, vs, va, vb, vc⟩ else vv j) ∧ ∀ p u, (valE (if j = k then ⟨vk, vn, vs, va, vb, vc⟩ else vv j))[p]? = some u → cs2[j * 6 + p]? = some u) := fun j hj => by
                  by_cases hjk : j = k
                  · subst hjk
                    rw [if_pos rfl]
                    exact ⟨HRV.out, hp1⟩
                  · rw [if_neg hjk]
                    obtain ⟨h1, h2⟩ := HALL.out j (by omega)
                    refine ⟨h1, fun p u hu => ?_⟩
                    have hp6 : p < 6 := get_lt hu
                    rw [hp2 (j * 6 + p) (by omega)]
                    exact h2 p u hu
                have HP3 : Hid (cs2.size = 42) := hc2.trans HCS.out
                generalize put y1 L (k * 6) (valE ⟨vk, vn, vs, va, vb, vc⟩) = w9 at *
                clear hp1 hp2 hc2 l0 l1 l2 l3 l4 l5 lf LY
                go_wp2_with fail
                go_roundw
                case rel => exact ⟨k + 1, cs2, fun j => if j = k then ⟨vk, vn, vs, va, vb, vc⟩ else vv j, by omega, by go_num, LP, HP3.out, HPC.out, AHP, ANP, XP⟩
                case measure => simp [intOf]; omega
            · have hki : ¬ (k : Int) < 7 := by omega
              obtain rfl : k = 7 := by omega
              obtain ⟨bn, on, cn, da, dc, ka2, kc2, hv2, _, _, _, _, n2, _, hlk⟩ := node_at ((nodesRk (RkN 5)).agree HK3.out han) (i := 7) (by rw [h8]; omega)
              rw [h8] at hv2
              simp only [Value.slice.injEq] at hv2
              obtain ⟨rfl, -, rfl⟩ := hv2
              have hLK : lastK kids = (kids[7]'(by rw [h8]; omega)).2.2 := by unfold lastK; rw [List.getElem?_eq_getElem (by rw [h8]; omega)]; rfl
              have n2' : wr.cell? ⟨bn, on + 7 * 3 + 2, none⟩ = some (.slice ka2 (lastK kids).length kc2) := by rw [hLK]; exact n2
              have hlk' : (nodesRk (RkN 4)).rk (Old W) wr (.slice ka2 (lastK kids).length kc2) (lastK kids) := by rw [hLK]; exact hlk
              have HVP := Lib.hid (valuesP_any (RkN 4) (lastK kids) _ wr hlk' (Nat.le_trans (lastK_len HDT.out) (by omega)))
              have HON := Lib.hid (fun m (hm : DecOk bs m) => DecOk.only HBY.out HDT.out (fun j hj => (HALL.out j hj).1) hm)
              have HMK := Lib.hid (fun he hc => DecOk.mk' HBY.out HDT.out ho (fun j hj => (HALL.out j hj).1) he hc)
              have HCL : Hid (∀ (j p : Nat) u, j < 7 → (valE (vv j))[p]? = some u → cs[j * 6 + p]? = some u) := fun j p u hj hu => (HALL.out j hj).2 p u hu
              generalize valsV (lastK kids) = VL at *
              generalize valsE (lastK kids) = VE at *
              generalize (lastK kids).length = lk at *
              simp only [Nat.reduceMul, Nat.add_assoc, Nat.reduceAdd] at n2'
              clear hall hah han hx hlb hcs hLK n2 hlk hlk' HAH HAN HK3
              go_wp2_with fail
              refine HVP.out.mono ?_
              rintro e w6 ⟨a6, c6, rfl, x6, r6⟩
              have HR6 := Lib.hid (r6 (fun k => k = w.heap.size ∨ k = w.heap.size + 1) (by rintro _ (rfl | rfl); exact DR1.out.lt; exact DR2.out.lt))
              have E1 := DR1.out.ext x6
              have E2 := DR2.out.ext x6
              have EL := HLB.out.ext x6
              have X6 := HX.out.trans x6
              have q6 : ∀ j, w6.cell? ⟨w.heap.size + 1, j, none⟩ = (#[.int .i64 0] : Array Value)[j]? := E2.cell
              have f6 := fun j => E2.frozen j
              have hL4 := HL4.out
              clear r6 x6 n2'
              generalize hvl : VL.length = vl at *
              go_upto_region 14 with fail
              have F1 := E1.setOther (B' := w.heap.size + 1) (by omega) 0 (.int .i64 VE)
              have F2 : Bk (w6.setCell ⟨w.heap.size + 1, 0, none⟩ (.int .i64 VE)) (w.heap.size + 1) 30 #[.int .i64 VE] := E2.setCell 0 _
              have FL := EL.setOther (B' := w.heap.size + 1) (by omega) 0 (.int .i64 VE)
              have X7 : Ext w (w6.setCell ⟨w.heap.size + 1, 0, none⟩ (.int .i64 VE)) := X6.setCell (Nat.le_succ _) _
              have HB7 : Hid (Agree (fun k => k = w.heap.size ∨ k = w.heap.size + 1) w6 (w6.setCell ⟨w.heap.size + 1, 0, none⟩ (.int .i64 VE))) := agree_setCell (p := ⟨w.heap.size + 1, 0, none⟩) (.inr rfl) _
              generalize w6.setCell ⟨w.heap.size + 1, 0, none⟩ (.int .i64 VE) = w7 at *
              have q7 : ∀ j, w7.cell? ⟨w.heap.size + 1, j, none⟩ = (#[.int .i64 VE] : Array Value)[j]? := F2.cell
              clear q6 f6 E1 E2 EL X6
              by_cases hve : VE = 0
              · subst hve
                have l1 : w7.cell? ⟨L, 1, none⟩ = some (.int .i64 (vv 0).n) := (FL.cell 1).trans (HCL.out 0 1 _ (by omega) rfl)
                have l7 : w7.cell? ⟨L, 7, none⟩ = some (.int .i64 (vv 1).n) := (FL.cell 7).trans (HCL.out 1 1 _ (by omega) rfl)
                have l15 : w7.cell? ⟨L, 15, none⟩ = some (.int .i64 (vv 2).sec) := (FL.cell 15).trans (HCL.out 2 3 _ (by omega) rfl)
                have l16 : w7.cell? ⟨L, 16, none⟩ = some (.int .i64 (vv 2).frac) := (FL.cell 16).trans (HCL.out 2 4 _ (by omega) rfl)
                have l17 : w7.cell? ⟨L, 17, none⟩ = some (.int .i64 (vv 2).qual) := (FL.cell 17).trans (HCL.out 2 5 _ (by omega) rfl)
                have l19 : w7.cell? ⟨L, 19, none⟩ = some (.int .i64 (vv 3).n) := (FL.cell 19).trans (HCL.out 3 1 _ (by omega) rfl)
                have l25 : w7.cell? ⟨L, 25, none⟩ = some (.int .i64 (vv 4).n) := (FL.cell 25).trans (HCL.out 4 1 _ (by omega) rfl)
                have l31 : w7.cell? ⟨L, 31, none⟩ = some (.int .i64 (vv 5).n) := (FL.cell 31).trans (HCL.out 5 1 _ (by omega) rfl)
                have l37 : w7.cell? ⟨L, 37, none⟩ = some (.int .i64 (vv 6).n) := (FL.cell 37).trans (HCL.out 6 1 _ (by omega) rfl)
                have hmk : mkM vv VL = ⟨(vv 0).n, (vv 1).n, (vv 2).sec, (vv 2).frac, (vv 2).qual, (vv 3).n, (vv 4).n, (vv 5).n == 1, (vv 6).n, VL⟩ := rfl
                have HMM := Lib.hid hmk
                clear hmk HCL HLB FL
                generalize (vv 0).n = z1 at *
                generalize (vv 1).n = z2 at *
                generalize (vv 2).sec = z3 at *
                generalize (vv 2).frac = z4 at *
                generalize (vv 2).qual = z5 at *
                generalize (vv 3).n = z6 at *
                generalize (vv 4).n = z7 at *
                generalize (vv 5).n = zb at *
                generalize (vv 6).n = z9 at *
                generalize mkM vv VL = MM at *
                obtain ⟨z8, hz8⟩ : ∃ z8, (zb == 1) = z8 := ⟨_, rfl⟩
                rw [hz8] at HMM
                have q8 : ∀ j, w7.cell? ⟨w.heap.size, j, none⟩ = (#[.int .i64 0, .int .i64 0, .int .i64 0, .int .i64 0, .int .i64 0, .int .i64 0, .int .i64 0, .bool false, .int .i64 0, .slice none 0 0] : Array Value)[j]? := F1.cell
                have f8 := fun j => F1.frozen j
                go_wp2_with fail
                refine (HRO.out w7).mono ?_
                rintro e w8 ⟨rfl, rfl⟩
                go_upto_region 16 with fail
                change Code.wp _ _ _ _ (put w7 w.heap.size 0 [.int .i64 z1, .int .i64 z2, .int .i64 z3, .int .i64 z4, .int .i64 z5, .int .i64 z6, .int .i64 z7, .bool z8, .int .i64 z9, .slice a6 vl c6])
                have HCM : Hid (∀ w1 u, RF Any 6 valE w1 u VL → Calls Try.prog 22 #[.agg #[.int .i64 z1, .int .i64 z2, .int .i64 z3, .int .i64 z4, .int .i64 z5, .int .i64 z6, .int .i64 z7, .bool z8, .int .i64 z9, u]] w1 fun e w' => e = .returned (.int .i64 (chkM MM)) ∧ Ext w1 w') := fun w1 u hu => by
                  rw [HMM.out]
                  exact checkM_any ⟨z1, z2, z3, z4, z5, z6, z7, z8, z9, VL⟩ u w1 hu
                have K1 := put_all (vs := [.int .i64 z1, .int .i64 z2, .int .i64 z3, .int .i64 z4, .int .i64 z5, .int .i64 z6, .int .i64 z7, .bool z8, .int .i64 z9, .slice a6 vl c6]) F1 rfl
                have K2 := put_other (B := w.heap.size + 1) (B' := w.heap.size) (by omega) [.int .i64 z1, .int .i64 z2, .int .i64 z3, .int .i64 z4, .int .i64 z5, .int .i64 z6, .int .i64 z7, .bool z8, .int .i64 z9, .slice a6 vl c6] 0 w7 F2
                have X8 := put_ext (a := w) (Nat.le_refl _) [.int .i64 z1, .int .i64 z2, .int .i64 z3, .int .i64 z4, .int .i64 z5, .int .i64 z6, .int .i64 z7, .bool z8, .int .i64 z9, .slice a6 vl c6] 0 w7 X7
                have HR8 := Lib.hid ((HR6.out.agree HB7.out).agree (agree_put (V := (fun k => k = w.heap.size ∨ k = w.heap.size + 1)) (B := w.heap.size) (.inl rfl) [.int .i64 z1, .int .i64 z2, .int .i64 z3, .int .i64 z4, .int .i64 z5, .int .i64 z6, .int .i64 z7, .bool z8, .int .i64 z9, .slice a6 vl c6] 0 w7))
                generalize put w7 w.heap.size 0 [.int .i64 z1, .int .i64 z2, .int .i64 z3, .int .i64 z4, .int .i64 z5, .int .i64 z6, .int .i64 z7, .bool z8, .int .i64 z9, .slice a6 vl c6] = w8 at *
                have HC8 := Lib.hid (HCM.out w8 _ (HR8.out.weak (by omega) (fun _ _ h => h.elim)))
                have q9 : ∀ j, w8.cell? ⟨w.heap.size, j, none⟩ = (#[.int .i64 z1, .int .i64 z2, .int .i64 z3, .int .i64 z4, .int .i64 z5, .int .i64 z6, .int .i64 z7, .bool z8, .int .i64 z9, .slice a6 vl c6] : Array Value)[j]? := K1.cell
                clear q7 q8 f8 F1 F2 X7 l1 l7 l15 l16 l17 l19 l25 l31 l37 HB7 HR6
                go_wp2_with fail
                refine HC8.out.mono ?_
                rintro e w10 ⟨rfl, x10⟩
                have M1 := K1.ext x10
                have M2 := K2.ext x10
                have X10 := X8.trans x10
                have HR10 := Lib.hid (HR8.out.ext x10)
                clear q9 K1 K2 X8 x10 HR8
                have hmq : ∀ m, DecOk bs m → m = MM := fun m hm => (HON.out m hm).2
                have HMQ := Lib.hid hmq
                clear hmq
                by_cases hch : chkM MM = 0
                · rw [hch]
                  have HCH := Lib.hid hch
                  have q11 : ∀ j, w10.cell? ⟨w.heap.size, j, none⟩ = (#[.int .i64 z1, .int .i64 z2, .int .i64 z3, .int .i64 z4, .int .i64 z5, .int .i64 z6, .int .i64 z7, .bool z8, .int .i64 z9, .slice a6 vl c6] : Array Value)[j]? := M1.cell
                  have q12 : ∀ j, w10.cell? ⟨w.heap.size + 1, j, none⟩ = (#[.int .i64 0] : Array Value)[j]? := M2.cell
                  have f11 := fun j => M1.frozen j
                  have f12 := fun j => M2.frozen j
                  clear hch
                  go_wp2_with fail
                  refine (HRO.out w10).mono ?_
                  rintro e w11 ⟨rfl, rfl⟩
                  go_wp2_with fail
                  change bodyPostD _ _ _ Exit.ret _ ((put w10 w.heap.size 0 [.int .i64 z1, .int .i64 z2, .int .i64 z3, .int .i64 z4, .int .i64 z5, .int .i64 z6, .int .i64 z7, .bool z8, .int .i64 z9, .slice a6 vl c6]).setCell ⟨w.heap.size + 1, 0, none⟩ (.int .i64 0))
                  have N1 := (put_all (vs := [.int .i64 z1, .int .i64 z2, .int .i64 z3, .int .i64 z4, .int .i64 z5, .int .i64 z6, .int .i64 z7, .bool z8, .int .i64 z9, .slice a6 vl c6]) M1 rfl).setOther (B' := w.heap.size + 1) (by omega) 0 (.int .i64 0)
                  have N2 : Bk ((put w10 w.heap.size 0 [.int .i64 z1, .int .i64 z2, .int .i64 z3, .int .i64 z4, .int .i64 z5, .int .i64 z6, .int .i64 z7, .bool z8, .int .i64 z9, .slice a6 vl c6]).setCell ⟨w.heap.size + 1, 0, none⟩ (.int .i64 0)) (w.heap.size + 1) 30 #[.int .i64 0] := (put_other (B := w.heap.size + 1) (B' := w.heap.size) (by omega) [.int .i64 z1, .int .i64 z2, .int .i64 z3, .int .i64 z4, .int .i64 z5, .int .i64 z6, .int .i64 z7, .bool z8, .int .i64 z9, .slice a6 vl c6] 0 w10 M2).setCell 0 _
                  have XN := (put_ext (a := w) (Nat.le_refl _) [.int .i64 z1, .int .i64 z2, .int .i64 z3, .int .i64 z4, .int .i64 z5, .int .i64 z6, .int .i64 z7, .bool z8, .int .i64 z9, .slice a6 vl c6] 0 w10 X10).setCell (p := ⟨w.heap.size + 1, 0, none⟩) (Nat.le_succ _) (.int .i64 0)
                  have HRN := (HR10.out.agree (agree_put (V := (fun k => k = w.heap.size ∨ k = w.heap.size + 1)) (B := w.heap.size) (.inl rfl) [.int .i64 z1, .int .i64 z2, .int .i64 z3, .int .i64 z4, .int .i64 z5, .int .i64 z6, .int .i64 z7, .bool z8, .int .i64 z9, .slice a6 vl c6] 0 w10)).agree (agree_setCell (V := (fun k => k = w.heap.size ∨ k = w.heap.size + 1)) (p := ⟨w.heap.size + 1, 0, none⟩) (.inr rfl) (.int .i64 0))
                  have hok := HMK.out (by trivial) HCH.out
                  have huq := HMQ.out
                  rw [HMM.out] at hok huq
                  exact dec_door_ok rfl rfl N1 N2 XN (HRN.weak (by omega) (fun _ _ h => h.elim)) hok huq
                · have HNO : Hid (∀ m, ¬ DecOk bs m) := fun m hm => hch (by rw [← HMQ.out m hm]; exact hm.chk)
                  have HRB := Lib.hid (refuse_bad (chkM MM) hch w10)
                  have HVZ := Lib.hid hch
                  go_wp2_with fail
                  refine HRB.out.mono ?_
                  rintro e w11 ⟨rfl, rfl⟩
                  go_wp2_with fail
                  exact dec_door rfl rfl M1 rfl M2 X10 HVZ.out HNO.out
              · have HNO : Hid (∀ m, ¬ DecOk bs m) := fun m hm => hve (HON.out m hm).1
                have HRB := Lib.hid (refuse_bad VE hve w7)
                have HVZ := Lib.hid hve
                go_wp2_with fail
                refine HRB.out.mono ?_
                rintro e w8 ⟨rfl, rfl⟩
                go_wp2_with fail
                exact dec_door rfl rfl F1 rfl F2 X7 HVZ.out HNO.out
        · have HNO : Hid (∀ m, ¬ DecOk bs m) := fun m hm => by
            obtain ⟨dd', kids', ht, ho', _⟩ := hm.top
            rw [HDT.out] at ht
            injection ht with ht _
            injection ht with ht _
            injection ht with _ ht
            injection ht with _ ht
            subst ht
            exact ho ho'
          rw [decide_eq_false ho] at HORD
          generalize (kids : List (NodeOf (Nd 5))).length = kn at *
          go_wp2_with fail
          refine HORD.out.mono ?_
          rintro e w5 ⟨rfl, rfl⟩
          go_wp2_with fail
          refine (HR15.out w3).mono ?_
          rintro e w6 ⟨rfl, rfl⟩
          go_wp2_with fail
          exact dec_door rfl rfl D1 rfl D2 X3 (by decide) HNO.out
      · have HNO : Hid (∀ m, ¬ DecOk bs m) := fun m hm => by
          obtain ⟨dd', kids', ht', ho', _⟩ := hm.top
          rw [HDT.out] at ht'
          injection ht' with ht' _
          injection ht' with ht' _
          injection ht' with ht' _
          exact ht ht'
        have htb : (t != 97) = true := by simpa using ht
        go_wp2_with fail
        refine (HR15.out w3).mono ?_
        rintro e w6 ⟨rfl, rfl⟩
        go_wp2_with fail
        exact dec_door rfl rfl D1 rfl D2 X3 (by decide) HNO.out
    · have HNO : Hid (∀ m, ¬ DecOk bs m) := fun m hm => by
        obtain ⟨dd', kids', ht', ho', _⟩ := hm.top
        rw [HDT.out] at ht'
        injection ht' with ht' _
        have := HLN.out
        rw [ht'] at this
        exact h1 this.symm
      have h1b : ((ln : Int) != 1) = true := by simp only [bne_iff_ne, ne_eq]; omega
      go_wp2_with fail
      refine (HR15.out w3).mono ?_
      rintro e w6 ⟨rfl, rfl⟩
      go_wp2_with fail
      exact dec_door rfl rfl D1 rfl D2 X3 (by decide) HNO.out
  · have hno : ∀ m, ¬ DecOk bs m := fun m hm => by
      obtain ⟨dd, kids, ht, _⟩ := hm.top
      rw [ht] at h0
      exact h0 rfl
    have HNO := Lib.hid hno
    have hbad := decTop_bad 7 bs h0
    generalize decTop 7 bs = z at *
    obtain ⟨l, er⟩ := z
    simp only at *
    subst hbad
    have HRF := Lib.hid (fun w1 => refuse_bad er h0 w1)
    have HER := Lib.hid h0
    generalize bs.length = n at *
    clear h hno h0
    go_enter_defers Try.func27, Try.ntmps27
    go_upto_region 1 with fail
    have B1 := (Bk.new w #[.int .i64 0, .int .i64 0, .int .i64 0, .int .i64 0, .int .i64 0, .int .i64 0, .int .i64 0, .bool false, .int .i64 0, .slice none 0 0] 55 w.heap.size rfl).alloc (.cells #[.int .i64 0] 30)
    have B2 := Bk.new (w.alloc (.cells #[.int .i64 0, .int .i64 0, .int .i64 0, .int .i64 0, .int .i64 0, .int .i64 0, .int .i64 0, .bool false, .int .i64 0, .slice none 0 0] 55)) #[.int .i64 0] 30 (w.heap.size + 1) (by simp)
    have X0 : Ext w ((w.alloc (.cells #[.int .i64 0, .int .i64 0, .int .i64 0, .int .i64 0, .int .i64 0, .int .i64 0, .int .i64 0, .bool false, .int .i64 0, .slice none 0 0] 55)).alloc (.cells #[.int .i64 0] 30)) := ((Ext.refl w).alloc _).alloc _
    generalize (w.alloc (.cells #[.int .i64 0, .int .i64 0, .int .i64 0, .int .i64 0, .int .i64 0, .int .i64 0, .int .i64 0, .bool false, .int .i64 0, .slice none 0 0] 55)).alloc (.cells #[.int .i64 0] 30) = W at *
    go_wp2_with fail
    refine (HD.out W X0).mono ?_
    rintro e w2 ⟨a2, c2, rfl, x2, r2⟩
    clear r2
    have C1 := B1.ext x2
    have C2 := B2.ext x2
    have X2 := X0.trans x2
    have q2 : ∀ j, w2.cell? ⟨w.heap.size + 1, j, none⟩ = (#[.int .i64 0] : Array Value)[j]? := C2.cell
    have f2 := fun j => C2.frozen j
    clear B1 B2 X0 x2
    go_upto_region 3 with fail
    have D1 := C1.setOther (B' := w.heap.size + 1) (by omega) 0 (.int .i64 er)
    have D2 : Bk (w2.setCell ⟨w.heap.size + 1, 0, none⟩ (.int .i64 er)) (w.heap.size + 1) 30 #[.int .i64 er] := C2.setCell 0 _
    have X3 : Ext w (w2.setCell ⟨w.heap.size + 1, 0, none⟩ (.int .i64 er)) := X2.setCell (Nat.le_succ _) _
    generalize w2.setCell ⟨w.heap.size + 1, 0, none⟩ (.int .i64 er) = w3 at *
    have q3 : ∀ j, w3.cell? ⟨w.heap.size + 1, j, none⟩ = (#[.int .i64 er] : Array Value)[j]? := D2.cell
    clear q2 f2 C1 C2 X2
    go_wp2_with fail
    refine (HRF.out w3).mono ?_
    rintro e w4 ⟨rfl, rfl⟩
    go_wp2_with fail
    exact dec_door rfl rfl D1 rfl D2 X3 HER.out HNO.out
end Go.Proofs.Ytimnepfdpehdmaa
