/- What a station makes of a copy: the top. -/
import Derived.Test.YtimnepfdpehdmaaLatP
import Derived.Test.YtimnepfdpehdmaaMdcC
import Derived.Test.YtimnepfdpehdmaaTO
import Derived.Test.YtimnepfdpehdmaaTN
namespace Go.Proofs.Ytimnepfdpehdmaa
open Go.RowKit
attribute [local go_sem ↓] Go.wp_at_zero Go.wp_at_succ

abbrev stC (vb : Value) (u : SSt) (vu : Value) : Array Value := #[vb, .int .i64 u.pub, .int .i64 u.rev, .bool u.known, .int .i64 u.state, .int .i64 u.seq, .int .i64 u.left, .int .i64 u.lost, .bool u.test, vu]
abbrev stA (vb : Value) (u : SSt) (vu : Value) : Value := .agg #[vb, .int .i64 u.pub, .int .i64 u.rev, .bool u.known, .int .i64 u.state, .int .i64 u.seq, .int .i64 u.left, .int .i64 u.lost, .bool u.test, vu]
/-- A station; its lists lie outside the blocks V. -/
def RetStn (V : Nat → Prop) (w : World) (z : St) (e : Ending) (w' : World) : Prop := ∃ a c a' c', e = .returned (stA (.slice a z.box.length c) z.sub (.slice a' z.sub.vals.length c')) ∧ Ext w w' ∧ RF V 3 srcE w' (.slice a z.box.length c) z.box ∧ RF V 6 valE w' (.slice a' z.sub.vals.length c') z.sub.vals
theorem RF.far {α : Type} {V : Nat → Prop} {k : Nat} {enc : α → List Value} {w : World} {v : Value} {l : List α} (hk : 0 < k) (h : RF V k enc w v l) {w3 w4 : World} (he : Ext w w3) (ha : Agree (fun g => w.heap.size ≤ g) w3 w4) : RF V k enc w4 v l :=
  (((h.weak hk (V' := fun g => V g ∨ w.heap.size ≤ g) (fun g hg h => h.elim id (fun h => absurd h (by omega)))).ext he).agree (ha.mono fun g hg => .inr hg)).weak hk (fun g _ hg => .inl hg)
theorem opn_frame {p : List Int} {src seq net : Int} (h : (word src && word seq) = true) (hn : p.length ≤ 1500) (hnet : net = 0 ∨ net = 1) : opn (frame p src seq net) = ((src, seq, net, p), 0) := by
  unfold word at h
  simp only [Bool.and_eq_true, decide_eq_true_eq] at h
  unfold frame
  rw [opn_app]
  unfold opnT
  have h1 : isNet (160 + net) = true := by rcases hnet with rfl | rfl <;> decide
  rw [if_neg (by rw [h1]; simp), if_neg (by omega)]
  have h2 : netOf (160 + net) = net := by rcases hnet with rfl | rfl <;> decide
  rw [h2]
  congr 2
  · omega
  · congr 1
    omega
set_option maxRecDepth 100000 in
set_option maxHeartbeats 8000000 in
theorem take17_any {V : Nat → Prop} (x : St) (m : Msg) (src seq net : Int) (vb vu v : Value) (w : World) (hb : RF Any 3 srcE w vb x.box) (hu : RF V 6 valE w vu x.sub.vals) (hV : ∀ g, V g → g < w.heap.size) (hv : RB Any w v (frame (encMB m) src seq net))
    (hw : (word src && word seq) = true) (hnet : net = 0 ∨ net = 1) (hl : (encMB m).length ≤ 1500) (he : encME m = 0) (hi : ∀ x ∈ m.vals, inN x) (hbl : x.box.length ≤ 100000000) (hwf : ∀ y ∈ x.box, WfX y) (hul : x.sub.vals.length ≤ 1000000000) (hlo : 0 ≤ x.sub.lost ∧ x.sub.lost ≤ 1000000) :
    Calls Try.prog 11 #[stA vb x.sub vu, v] w (RetStn V w (takeF src x m seq)) := by
  have HOP := Lib.hid (fun w1 (he : Ext w w1) => openP_any (frame (encMB m) src seq net) v w1 (hv.ext he))
  rw [opn_frame hw hl hnet] at HOP
  have HAC := Lib.hid (fun w1 (he : Ext w w1) => acceptP_any x.box vb src seq w1 (hb.ext he) hbl hwf)
  have hdk := DecOk.back he hi
  have HDE := Lib.hid (fun v w1 (h : RB Any w1 v (encMB m)) => (decMP_any (encMB m) v w1 h).mono (R' := fun e w' => ∃ a c, e = .returned (.tuple #[msgA m (.slice a m.vals.length c), .int .i64 0]) ∧ Ext w1 w' ∧ RF Any 6 valE w' (.slice a m.vals.length c) m.vals) (fun e w' hh => by
    obtain ⟨y, u, er, h1, h2, h3, _, h4⟩ := hh
    obtain ⟨rfl, rfl⟩ := h4 m hdk
    obtain ⟨a, c, rfl, _, _⟩ := h3.form
    exact ⟨a, c, h1, h2, h3⟩))
  have HTK := Lib.hid (fun u w1 (he : Ext w w1) h => take_any x.sub m vu u w1 ((hu.ext he).weak (by omega) (V' := Any) (fun _ _ h => h.elim)) h hul (by omega))
  have HBV := Lib.hid (fun (wa wb : World) (l : List Src3) (u' : Value) (h1 : Ext w wa) (h : RF (Old wa) 3 srcE wb u' l) => h.weak (by omega) (V' := V) (fun g _ hg => h1.lt (hV g hg)))
  have HUV := Lib.hid (fun (wa wb : World) (l : List Val) (u' : Value) (h1 : Ext w wa) (h : RF (Old wa) 6 valE wb u' l) => h.weak (by omega) (V' := V) (fun g _ hg => h1.lt (hV g hg)))
  have HUF := Lib.hid (fun (w3 w4 : World) (h1 : Ext w w3) h2 => RF.far (w4 := w4) (by omega) hu h1 h2)
  obtain ⟨ab, cb, rfl, _, _⟩ := hb.form
  obtain ⟨au, cu, rfl, _, _⟩ := hu.form
  obtain ⟨av, cv, rfl, _, _⟩ := hv.form
  have hlv := frame_len (encMB m) src seq net
  obtain ⟨⟨bx, fst⟩, hz⟩ : ∃ z, accT x.box src seq = z := ⟨_, rfl⟩
  have hR : takeF src x m seq = ⟨bx, if fst = true then (takeS x.sub m).1 else x.sub⟩ := by unfold takeF; rw [hz]
  rw [hz] at HAC
  rw [hR]
  obtain ⟨⟨t, kk⟩, hzt⟩ : ∃ z, takeS x.sub m = z := ⟨_, rfl⟩
  rw [hzt] at HTK ⊢
  clear hR hz hzt hb hu hV hv hdk hw hnet hl he hi hbl hwf hul hlo
  obtain ⟨box, u⟩ := x
  simp only at *
  generalize (frame (encMB m) src seq net).length = nv at *
  clear hlv
  generalize encMB m = pb at *
  have B0 := Lib.hid ((Bk.new w (stC (.slice ab box.length cb) u (.slice au u.vals.length cu)) 40 w.heap.size rfl).alloc (.cells #[.slice none 0 0, .int .i64 0, .int .i64 0, .bool false, .int .i64 0, .int .i64 0, .int .i64 0, .int .i64 0, .bool false, .slice none 0 0] 40))
  have R0 := Lib.hid (Bk.new (w.alloc (.cells (stC (.slice ab box.length cb) u (.slice au u.vals.length cu)) 40)) #[.slice none 0 0, .int .i64 0, .int .i64 0, .bool false, .int .i64 0, .int .i64 0, .int .i64 0, .int .i64 0, .bool false, .slice none 0 0] 40 (w.heap.size + 1) (by simp))
  have E0 := Lib.hid (((Ext.refl w).alloc (.cells (stC (.slice ab box.length cb) u (.slice au u.vals.length cu)) 40)).alloc (.cells #[.slice none 0 0, .int .i64 0, .int .i64 0, .bool false, .int .i64 0, .int .i64 0, .int .i64 0, .int .i64 0, .bool false, .slice none 0 0] 40))
  have HF : Hid (∀ w' a c a' c', Ext w w' → RF V 3 srcE w' (.slice a bx.length c) bx → RF V 6 valE w' (.slice a' (if fst = true then t else u).vals.length c') (if fst = true then t else u).vals → RetStn V w ⟨bx, if fst = true then t else u⟩ (.returned (stA (.slice a bx.length c) (if fst = true then t else u) (.slice a' (if fst = true then t else u).vals.length c'))) w') := fun w' a c a' c' h1 h2 h3 => ⟨a, c, a', c', rfl, h1, h2, h3⟩
  have HF1 : Hid (fst = false → ∀ w' a c a' c', Ext w w' → RF V 3 srcE w' (.slice a bx.length c) bx → RF V 6 valE w' (.slice a' u.vals.length c') u.vals → RetStn V w ⟨bx, if fst = true then t else u⟩ (.returned (.agg #[.slice a bx.length c, .int .i64 u.pub, .int .i64 u.rev, .bool u.known, .int .i64 u.state, .int .i64 u.seq, .int .i64 u.left, .int .i64 u.lost, .bool u.test, .slice a' u.vals.length c'])) w') := fun hf => by subst hf; exact HF.out
  have HF2 : Hid (fst = true → ∀ w' a c a' c', Ext w w' → RF V 3 srcE w' (.slice a bx.length c) bx → RF V 6 valE w' (.slice a' t.vals.length c') t.vals → RetStn V w ⟨bx, if fst = true then t else u⟩ (.returned (.agg #[.slice a bx.length c, .int .i64 t.pub, .int .i64 t.rev, .bool t.known, .int .i64 t.state, .int .i64 t.seq, .int .i64 t.left, .int .i64 t.lost, .bool t.test, .slice a' t.vals.length c'])) w') := fun hf => by subst hf; exact HF.out
  generalize RetStn V w ⟨bx, if fst = true then t else u⟩ = R at *
  clear HF
  obtain ⟨u1, u2, u3, u4, u5, u6, u7, u8, vs⟩ := u
  obtain ⟨t1, t2, t3, t4, t5, t6, t7, t8, vt⟩ := t
  obtain ⟨m1, m2, m3, m4, m5, m6, m7, m8, m9, vm⟩ := m
  simp only at *
  generalize hnb : box.length = nb at *
  generalize hnu : vs.length = nu at *
  generalize hn2 : bx.length = n2 at *
  generalize hnt : vt.length = nt at *
  generalize hnp : pb.length = np at *
  generalize hnm : vm.length = nm at *
  have HN := Lib.hid (And.intro hn2 (And.intro hnt (And.intro hnp hnm)))
  clear hnb hnu hn2 hnt hnp hnm
  go_enter Try.func11, Try.ntmps11
  go_wp2_with fail
  generalize (w.alloc (.cells #[.slice ab nb cb, .int .i64 u1, .int .i64 u2, .bool u3, .int .i64 u4, .int .i64 u5, .int .i64 u6, .int .i64 u7, .bool u8, .slice au nu cu] 40)).alloc (.cells #[.slice none 0 0, .int .i64 0, .int .i64 0, .bool false, .int .i64 0, .int .i64 0, .int .i64 0, .int .i64 0, .bool false, .slice none 0 0] 40) = W at *
  refine (HOP.out _ E0.out).mono ?_
  rintro e w1 ⟨a1, c1, he, x1, r1⟩
  simp only [HN.out.2.2.1] at he r1
  subst he
  go_upto_region 2 with fail
  have B1 := Lib.hid ((B0.out.ext x1).alloc (.cells #[.int .i64 src, .int .i64 seq, .int .i64 net, .slice a1 np c1] 81))
  have R1 := Lib.hid ((R0.out.ext x1).alloc (.cells #[.int .i64 src, .int .i64 seq, .int .i64 net, .slice a1 np c1] 81))
  have C1 := Lib.hid (Bk.new w1 #[.int .i64 src, .int .i64 seq, .int .i64 net, .slice a1 np c1] 81 w1.heap.size rfl)
  have E1 := Lib.hid ((E0.out.trans x1).alloc (.cells #[.int .i64 src, .int .i64 seq, .int .i64 net, .slice a1 np c1] 81))
  have P1 := Lib.hid ((r1.ext ((Ext.refl w1).alloc (.cells #[.int .i64 src, .int .i64 seq, .int .i64 net, .slice a1 np c1] 81))).weak (V' := fun g => g = w.heap.size) (fun g _ hg => by rw [hg]; exact B0.out.lt))
  have lc : w.heap.size + 1 < w1.heap.size := (R0.out.ext x1).lt
  generalize w1.alloc (.cells #[.int .i64 src, .int .i64 seq, .int .i64 net, .slice a1 np c1] 81) = w2 at *
  generalize w1.heap.size = cp at *
  clear B0 R0 E0 x1 r1
  have q0 : ∀ j, w2.cell? ⟨w.heap.size, j, none⟩ = (#[.slice ab nb cb, .int .i64 u1, .int .i64 u2, .bool u3, .int .i64 u4, .int .i64 u5, .int .i64 u6, .int .i64 u7, .bool u8, .slice au nu cu] : Array Value)[j]? := B1.out.cell
  have q1 : ∀ j, w2.cell? ⟨cp, j, none⟩ = (#[.int .i64 src, .int .i64 seq, .int .i64 net, .slice a1 np c1] : Array Value)[j]? := C1.out.cell
  go_wp2_with fail
  refine (HAC.out _ E1.out).mono ?_
  rintro e w3 ⟨a2, c2, he, x3, r3⟩
  simp only [HN.out.1] at he r3
  subst he
  go_upto_region 5 with fail
  have B2 := Lib.hid ((B1.out.ext x3).alloc (.cells #[.slice a2 n2 c2] 38))
  have R2 := Lib.hid ((R1.out.ext x3).alloc (.cells #[.slice a2 n2 c2] 38))
  have C2 := Lib.hid ((C1.out.ext x3).alloc (.cells #[.slice a2 n2 c2] 38))
  have T2 := Lib.hid (Bk.new w3 #[.slice a2 n2 c2] 38 w3.heap.size rfl)
  have E2 := Lib.hid ((E1.out.trans x3).alloc (.cells #[.slice a2 n2 c2] 38))
  have P2 := Lib.hid (P1.out.ext (x3.alloc (.cells #[.slice a2 n2 c2] 38)))
  have Q2 := Lib.hid (r3.ext ((Ext.refl w3).alloc (.cells #[.slice a2 n2 c2] 38)))
  have E12 := Lib.hid E1.out
  have lbq : w.heap.size < w2.heap.size ∧ w.heap.size + 1 < w2.heap.size := ⟨B1.out.lt, R1.out.lt⟩
  have HSZ0 := Lib.hid (show w2.heap.size ≤ (w3.alloc (.cells #[.slice a2 n2 c2] 38)).heap.size by have := x3.size; simp; omega)
  generalize w3.alloc (.cells #[.slice a2 n2 c2] 38) = w4 at *
  generalize w3.heap.size = tb at *
  clear B1 R1 C1 E1 x3 r3 P1 q0 q1
  have q0 : ∀ j, w4.cell? ⟨w.heap.size, j, none⟩ = (#[.slice ab nb cb, .int .i64 u1, .int .i64 u2, .bool u3, .int .i64 u4, .int .i64 u5, .int .i64 u6, .int .i64 u7, .bool u8, .slice au nu cu] : Array Value)[j]? := B2.out.cell
  have f0 := B2.out.frozen
  have q1 : ∀ j, w4.cell? ⟨tb, j, none⟩ = (#[.slice a2 n2 c2] : Array Value)[j]? := T2.out.cell
  go_upto_region 6 with fail
  have B3 := Lib.hid (show Bk (w4.setCell ⟨w.heap.size, 0, none⟩ (.slice a2 n2 c2)) w.heap.size 40 #[.slice a2 n2 c2, .int .i64 u1, .int .i64 u2, .bool u3, .int .i64 u4, .int .i64 u5, .int .i64 u6, .int .i64 u7, .bool u8, .slice au nu cu] from B2.out.setCell 0 (.slice a2 n2 c2))
  have R3 := Lib.hid (R2.out.setOther (show w.heap.size ≠ w.heap.size + 1 by omega) 0 (.slice a2 n2 c2))
  have C3 := Lib.hid (C2.out.setOther (show w.heap.size ≠ cp by omega) 0 (.slice a2 n2 c2))
  have E3 := Lib.hid (E2.out.setCell (p := ⟨w.heap.size, 0, none⟩) (Nat.le_refl _) (.slice a2 n2 c2))
  have A3 := agree_setCell (V := fun g => g = w.heap.size) (w := w4) (p := ⟨w.heap.size, 0, none⟩) rfl (.slice a2 n2 c2)
  have P3 := Lib.hid ((P2.out.agree A3).any)
  have Q3 := Lib.hid (Q2.out.agree (A3.mono (V' := Old w2) fun g hg => by have : g = w.heap.size := hg; rw [this]; exact lbq.1))
  have HAG := Lib.hid A3
  clear A3
  have E2K := Lib.hid E2.out
  clear B2 R2 C2 T2 E2 P2 Q2 q0 q1 f0
  have HSZ := Lib.hid (show w2.heap.size ≤ (w4.setCell ⟨w.heap.size, 0, none⟩ (.slice a2 n2 c2)).heap.size by simp; exact HSZ0.out)
  generalize w4.setCell ⟨w.heap.size, 0, none⟩ (.slice a2 n2 c2) = w5 at *
  cases fst
  · have HF := Lib.hid (HF1.out rfl)
    have q0 : ∀ j, w5.cell? ⟨w.heap.size, j, none⟩ = (#[.slice a2 n2 c2, .int .i64 u1, .int .i64 u2, .bool u3, .int .i64 u4, .int .i64 u5, .int .i64 u6, .int .i64 u7, .bool u8, .slice au nu cu] : Array Value)[j]? := B3.out.cell
    have q4 : ∀ j, w5.cell? ⟨w.heap.size + 1, j, none⟩ = (#[.slice none 0 0, .int .i64 0, .int .i64 0, .bool false, .int .i64 0, .int .i64 0, .int .i64 0, .int .i64 0, .bool false, .slice none 0 0] : Array Value)[j]? := R3.out.cell
    have f4 := R3.out.frozen
    go_wp2_with fail
    change bodyPost _ _ _ _ _ (put w5 (w.heap.size + 1) 0 [.slice a2 n2 c2, .int .i64 u1, .int .i64 u2, .bool u3, .int .i64 u4, .int .i64 u5, .int .i64 u6, .int .i64 u7, .bool u8, .slice au nu cu])
    have C6 := put_all (vs := [.slice a2 n2 c2, .int .i64 u1, .int .i64 u2, .bool u3, .int .i64 u4, .int .i64 u5, .int .i64 u6, .int .i64 u7, .bool u8, .slice au nu cu]) R3.out rfl
    have X6 := put_ext (a := w) (show w.heap.size ≤ w.heap.size + 1 by omega) [.slice a2 n2 c2, .int .i64 u1, .int .i64 u2, .bool u3, .int .i64 u4, .int .i64 u5, .int .i64 u6, .int .i64 u7, .bool u8, .slice au nu cu] 0 _ E3.out
    have A6 := agree_put (V := fun g => w.heap.size ≤ g) (B := w.heap.size + 1) (show w.heap.size ≤ w.heap.size + 1 by omega) [.slice a2 n2 c2, .int .i64 u1, .int .i64 u2, .bool u3, .int .i64 u4, .int .i64 u5, .int .i64 u6, .int .i64 u7, .bool u8, .slice au nu cu] 0 w5
    have Q6 := HBV.out _ _ _ _ E12.out (Q3.out.agree (agree_put (V := Old w2) (B := w.heap.size + 1) lbq.2 [.slice a2 n2 c2, .int .i64 u1, .int .i64 u2, .bool u3, .int .i64 u4, .int .i64 u5, .int .i64 u6, .int .i64 u7, .bool u8, .slice au nu cu] 0 w5))
    have U6 := HUF.out _ _ E2K.out ((HAG.out.mono (V' := fun g => w.heap.size ≤ g) fun g hg => by have : g = w.heap.size := hg; show w.heap.size ≤ g; omega).trans A6)
    generalize put w5 (w.heap.size + 1) 0 [.slice a2 n2 c2, .int .i64 u1, .int .i64 u2, .bool u3, .int .i64 u4, .int .i64 u5, .int .i64 u6, .int .i64 u7, .bool u8, .slice au nu cu] = w6 at *
    have c6 := C6.cell
    exact bodyPost_ret (v := .agg #[.slice a2 n2 c2, .int .i64 u1, .int .i64 u2, .bool u3, .int .i64 u4, .int .i64 u5, .int .i64 u6, .int .i64 u7, .bool u8, .slice au nu cu]) (by simp [results, Try.results11, go_sem, c6]) rfl (HF.out _ _ _ _ _ X6 Q6 U6)
  · have HF := Lib.hid (HF2.out rfl)
    have q0 : ∀ j, w5.cell? ⟨w.heap.size, j, none⟩ = (#[.slice a2 n2 c2, .int .i64 u1, .int .i64 u2, .bool u3, .int .i64 u4, .int .i64 u5, .int .i64 u6, .int .i64 u7, .bool u8, .slice au nu cu] : Array Value)[j]? := B3.out.cell
    have q1 : ∀ j, w5.cell? ⟨cp, j, none⟩ = (#[.int .i64 src, .int .i64 seq, .int .i64 net, .slice a1 np c1] : Array Value)[j]? := C3.out.cell
    go_wp2_with fail
    refine (HDE.out _ _ P3.out).mono ?_
    rintro e w6 ⟨a4, c4, rfl, x6, r6⟩
    go_upto_region 8 with fail
    have B6 := Lib.hid ((B3.out.ext x6).alloc (.cells #[.int .i64 m1, .int .i64 m2, .int .i64 m3, .int .i64 m4, .int .i64 m5, .int .i64 m6, .int .i64 m7, .bool m8, .int .i64 m9, .slice a4 nm c4] 55))
    have R6 := Lib.hid ((R3.out.ext x6).alloc (.cells #[.int .i64 m1, .int .i64 m2, .int .i64 m3, .int .i64 m4, .int .i64 m5, .int .i64 m6, .int .i64 m7, .bool m8, .int .i64 m9, .slice a4 nm c4] 55))
    have M6 := Lib.hid (Bk.new w6 #[.int .i64 m1, .int .i64 m2, .int .i64 m3, .int .i64 m4, .int .i64 m5, .int .i64 m6, .int .i64 m7, .bool m8, .int .i64 m9, .slice a4 nm c4] 55 w6.heap.size rfl)
    have E6 := Lib.hid ((E3.out.trans x6).alloc (.cells #[.int .i64 m1, .int .i64 m2, .int .i64 m3, .int .i64 m4, .int .i64 m5, .int .i64 m6, .int .i64 m7, .bool m8, .int .i64 m9, .slice a4 nm c4] 55))
    have V6 := Lib.hid (r6.ext ((Ext.refl w6).alloc (.cells #[.int .i64 m1, .int .i64 m2, .int .i64 m3, .int .i64 m4, .int .i64 m5, .int .i64 m6, .int .i64 m7, .bool m8, .int .i64 m9, .slice a4 nm c4] 55)))
    have Q6 := Lib.hid (Q3.out.ext (x6.alloc (.cells #[.int .i64 m1, .int .i64 m2, .int .i64 m3, .int .i64 m4, .int .i64 m5, .int .i64 m6, .int .i64 m7, .bool m8, .int .i64 m9, .slice a4 nm c4] 55)))
    have lq6 : w2.heap.size ≤ (w6.alloc (.cells #[.int .i64 m1, .int .i64 m2, .int .i64 m3, .int .i64 m4, .int .i64 m5, .int .i64 m6, .int .i64 m7, .bool m8, .int .i64 m9, .slice a4 nm c4] 55)).heap.size := by have h2 := x6.size; have h3 := HSZ.out; simp only [World.size_alloc]; omega
    generalize w6.alloc (.cells #[.int .i64 m1, .int .i64 m2, .int .i64 m3, .int .i64 m4, .int .i64 m5, .int .i64 m6, .int .i64 m7, .bool m8, .int .i64 m9, .slice a4 nm c4] 55) = w7 at *
    generalize w6.heap.size = mb at *
    clear B3 R3 C3 E3 P3 Q3 HAG x6 r6 q0 q1
    have q0 : ∀ j, w7.cell? ⟨w.heap.size, j, none⟩ = (#[.slice a2 n2 c2, .int .i64 u1, .int .i64 u2, .bool u3, .int .i64 u4, .int .i64 u5, .int .i64 u6, .int .i64 u7, .bool u8, .slice au nu cu] : Array Value)[j]? := B6.out.cell
    have q1 : ∀ j, w7.cell? ⟨mb, j, none⟩ = (#[.int .i64 m1, .int .i64 m2, .int .i64 m3, .int .i64 m4, .int .i64 m5, .int .i64 m6, .int .i64 m7, .bool m8, .int .i64 m9, .slice a4 nm c4] : Array Value)[j]? := M6.out.cell
    go_wp2_with fail
    refine (HTK.out _ _ E6.out V6.out).mono ?_
    rintro e w8 ⟨a5, c5, he, x8, r8⟩
    simp only [HN.out.2.1] at he r8
    subst he
    have B8 := Lib.hid (B6.out.ext x8)
    have R8 := Lib.hid (R6.out.ext x8)
    clear q0 q1
    have q0 : ∀ j, w8.cell? ⟨w.heap.size, j, none⟩ = (#[.slice a2 n2 c2, .int .i64 u1, .int .i64 u2, .bool u3, .int .i64 u4, .int .i64 u5, .int .i64 u6, .int .i64 u7, .bool u8, .slice au nu cu] : Array Value)[j]? := B8.out.cell
    have f0 := B8.out.frozen
    go_upto_region 10 with fail
    change Code.wp _ _ _ _ (put w8 w.heap.size 1 [.int .i64 t1, .int .i64 t2, .bool t3, .int .i64 t4, .int .i64 t5, .int .i64 t6, .int .i64 t7, .bool t8, .slice a5 nt c5])
    have B9 := Lib.hid (show Bk (put w8 w.heap.size 1 [.int .i64 t1, .int .i64 t2, .bool t3, .int .i64 t4, .int .i64 t5, .int .i64 t6, .int .i64 t7, .bool t8, .slice a5 nt c5]) w.heap.size 40 #[.slice a2 n2 c2, .int .i64 t1, .int .i64 t2, .bool t3, .int .i64 t4, .int .i64 t5, .int .i64 t6, .int .i64 t7, .bool t8, .slice a5 nt c5] from put_at (vs := [.int .i64 t1, .int .i64 t2, .bool t3, .int .i64 t4, .int .i64 t5, .int .i64 t6, .int .i64 t7, .bool t8, .slice a5 nt c5]) (cs := [.slice a2 n2 c2, .int .i64 u1, .int .i64 u2, .bool u3, .int .i64 u4, .int .i64 u5, .int .i64 u6, .int .i64 u7, .bool u8, .slice au nu cu]) 1 w8 B8.out (by simp))
    have R9 := Lib.hid (put_other (show w.heap.size ≠ w.heap.size + 1 by omega) [.int .i64 t1, .int .i64 t2, .bool t3, .int .i64 t4, .int .i64 t5, .int .i64 t6, .int .i64 t7, .bool t8, .slice a5 nt c5] 1 w8 R8.out)
    have E9 := Lib.hid (put_ext (a := w) (Nat.le_refl w.heap.size) [.int .i64 t1, .int .i64 t2, .bool t3, .int .i64 t4, .int .i64 t5, .int .i64 t6, .int .i64 t7, .bool t8, .slice a5 nt c5] 1 _ (E6.out.trans x8))
    have Q9 := Lib.hid ((Q6.out.ext x8).agree (agree_put (V := Old w2) (B := w.heap.size) lbq.1 [.int .i64 t1, .int .i64 t2, .bool t3, .int .i64 t4, .int .i64 t5, .int .i64 t6, .int .i64 t7, .bool t8, .slice a5 nt c5] 1 w8))
    have U9 := Lib.hid (r8.agree (agree_put (V := Old w7) (B := w.heap.size) (Nat.lt_of_lt_of_le lbq.1 lq6) [.int .i64 t1, .int .i64 t2, .bool t3, .int .i64 t4, .int .i64 t5, .int .i64 t6, .int .i64 t7, .bool t8, .slice a5 nt c5] 1 w8))
    clear q0 f0
    generalize put w8 w.heap.size 1 [.int .i64 t1, .int .i64 t2, .bool t3, .int .i64 t4, .int .i64 t5, .int .i64 t6, .int .i64 t7, .bool t8, .slice a5 nt c5] = w9 at *
    have q0 : ∀ j, w9.cell? ⟨w.heap.size, j, none⟩ = (#[.slice a2 n2 c2, .int .i64 t1, .int .i64 t2, .bool t3, .int .i64 t4, .int .i64 t5, .int .i64 t6, .int .i64 t7, .bool t8, .slice a5 nt c5] : Array Value)[j]? := B9.out.cell
    have q4 : ∀ j, w9.cell? ⟨w.heap.size + 1, j, none⟩ = (#[.slice none 0 0, .int .i64 0, .int .i64 0, .bool false, .int .i64 0, .int .i64 0, .int .i64 0, .int .i64 0, .bool false, .slice none 0 0] : Array Value)[j]? := R9.out.cell
    have f4 := R9.out.frozen
    go_wp2_with fail
    change bodyPost _ _ _ _ _ (put w9 (w.heap.size + 1) 0 [.slice a2 n2 c2, .int .i64 t1, .int .i64 t2, .bool t3, .int .i64 t4, .int .i64 t5, .int .i64 t6, .int .i64 t7, .bool t8, .slice a5 nt c5])
    have C6 := put_all (vs := [.slice a2 n2 c2, .int .i64 t1, .int .i64 t2, .bool t3, .int .i64 t4, .int .i64 t5, .int .i64 t6, .int .i64 t7, .bool t8, .slice a5 nt c5]) R9.out rfl
    have X6 := put_ext (a := w) (show w.heap.size ≤ w.heap.size + 1 by omega) [.slice a2 n2 c2, .int .i64 t1, .int .i64 t2, .bool t3, .int .i64 t4, .int .i64 t5, .int .i64 t6, .int .i64 t7, .bool t8, .slice a5 nt c5] 0 _ E9.out
    have QA := HBV.out _ _ _ _ E12.out (Q9.out.agree (agree_put (V := Old w2) (B := w.heap.size + 1) lbq.2 [.slice a2 n2 c2, .int .i64 t1, .int .i64 t2, .bool t3, .int .i64 t4, .int .i64 t5, .int .i64 t6, .int .i64 t7, .bool t8, .slice a5 nt c5] 0 w9))
    have UA := HUV.out _ _ _ _ E6.out (U9.out.agree (agree_put (V := Old w7) (B := w.heap.size + 1) (Nat.lt_of_lt_of_le lbq.2 lq6) [.slice a2 n2 c2, .int .i64 t1, .int .i64 t2, .bool t3, .int .i64 t4, .int .i64 t5, .int .i64 t6, .int .i64 t7, .bool t8, .slice a5 nt c5] 0 w9))
    generalize put w9 (w.heap.size + 1) 0 [.slice a2 n2 c2, .int .i64 t1, .int .i64 t2, .bool t3, .int .i64 t4, .int .i64 t5, .int .i64 t6, .int .i64 t7, .bool t8, .slice a5 nt c5] = wA at *
    have c6 := C6.cell
    exact bodyPost_ret (v := .agg #[.slice a2 n2 c2, .int .i64 t1, .int .i64 t2, .bool t3, .int .i64 t4, .int .i64 t5, .int .i64 t6, .int .i64 t7, .bool t8, .slice a5 nt c5]) (by simp [results, Try.results11, go_sem, c6]) rfl (HF.out _ _ _ _ _ X6 QA UA)
end Go.Proofs.Ytimnepfdpehdmaa
