/- The memory of the law LateNetwork: a publisher, a station, the copies that wait. -/
import Derived.Test.YtimnepfdpehdmaaTopS
import Derived.Test.YtimnepfdpehdmaaLatQ
import Derived.Test.YtimnepfdpehdmaaTL
namespace Go.Proofs.Ytimnepfdpehdmaa
open Go.RowKit
attribute [local go_sem ↓] Go.wp_at_zero Go.wp_at_succ

theorem within17_any (n m : Int) (w : World) (hm : 1 ≤ m) (hm2 : m ≤ 100000) : Calls Try.prog 5 #[.int .i64 n, .int .i64 m] w fun e w' => e = .returned (.int .i64 (n % m)) ∧ w = w' := by
  have h1 := Int.emod_nonneg n (show m ≠ 0 by omega)
  have h2 := Int.emod_lt_of_pos n (show 0 < m by omega)
  have h3 : (m == 0) = false := by simp; omega
  have e1 : n.tmod m = n % m ∨ (n.tmod m < 0 ∧ n.tmod m + m = n % m) := by
    rcases Int.lt_or_le n 0 with hn | hn
    · by_cases hz : m ∣ n
      · left
        rw [Int.tmod_eq_zero_of_dvd hz, Int.emod_eq_zero_of_dvd hz]
      · right
        rw [Int.tmod_eq_emod]
        rw [if_neg (by intro hh; rcases hh with hh | hh; · omega
                       · exact hz hh)]
        have : (m.natAbs : Int) = m := by omega
        rw [this]
        omega
    · left; exact Int.tmod_eq_emod_of_nonneg hn
  generalize n % m = r at *
  generalize hq : n.tmod m = q at *
  rcases e1 with e1 | ⟨e1, e2⟩
  · subst e1
    go_enter Try.func5, Try.ntmps5
    go_wp2
    go_ret
    exact ⟨rfl, rfl⟩
  · have hr : r = q + m := by omega
    subst hr
    go_enter Try.func5, Try.ntmps5
    go_wp2
    go_ret
    exact ⟨rfl, rfl⟩
/-! ### Owned rows -/
theorem own_below {base : Nat} {e : TypeId} {size : Nat} {v : Value} {n : Nat} {xs : List Value} {w w' : World} (h : w.ownsRow base e size v n xs) (ha : Agree (fun g => g < base) w w') : w'.ownsRow base e size v n xs := by
  refine ⟨h.1, ?_⟩
  rcases h.2 with h0 | ⟨g, cap, cur, rfl, hb, hg, rest⟩
  · exact .inl h0
  · exact .inr ⟨g, cap, cur, rfl, hb, (ha.2 g (Array.getElem?_eq_some_iff.1 hg).1 (by omega)).trans hg, rest⟩
theorem own_grown {base : Nat} {e : TypeId} {size : Nat} {v : Value} {n : Nat} {xs : List Value} {w w' : World} {row : Option Nat} (h : w.ownsRow base e size v n xs) (hg : w.grownBy w' row) (hr : ∀ g, v.ownBlock = some g → row ≠ some g) : w'.ownsRow base e size v n xs := by
  refine ⟨h.1, ?_⟩
  rcases h.2 with h0 | ⟨g, cap, cur, rfl, hb, hgg, rest⟩
  · exact .inl h0
  · exact .inr ⟨g, cap, cur, rfl, hb, (hg.block g (Array.getElem?_eq_some_iff.1 hgg).1 (fun e => hr g rfl e.symm)).trans hgg, rest⟩
theorem own_get {base : Nat} {e : TypeId} {v : Value} {n : Nat} {xs : List Value} {w : World} (h : w.ownsRow base e 1 v n xs) {i : Nat} {u : Value} (hu : xs[i]? = some u) : ∃ g cap, v = .slice (some ⟨g, 0, none⟩) n cap ∧ w.cell? ⟨g, i, none⟩ = some u := by
  have hi := get_lt hu
  have hl := h.1
  rcases h.2 with ⟨_, h0⟩ | ⟨g, cap, cur, rfl, _, hg, h1, h2, h3, h4⟩
  · omega
  · refine ⟨g, cap, rfl, ?_⟩
    rw [cell_of_row w g i cur e (0, 0) hg, ← Array.getElem?_toList]
    rw [← h4] at hu
    rw [List.getElem?_take_of_lt (by omega)] at hu
    exact hu

/-- The blocks that are written. -/
def NV (BP BX : Nat) (vw vd : Value) : Nat → Prop := fun g => g = BP ∨ g = BX ∨ vw.ownBlock = some g ∨ vd.ownBlock = some g
structure Mem (w0 wr : World) (BP BX base : Nat) (D : Int) (vw vd : Value) (p : PSt) (x : St) (H : List Snt) (vp vb vu : Value) : Prop where
  ext : Ext w0 wr
  ba : w0.heap.size ≤ BP ∧ w0.heap.size ≤ BX ∧ BP < base ∧ BX < base ∧ BP ≠ BX
  bs : base ≤ wr.heap.size
  bp : Bk wr BP 29 (pubC p vp)
  bx : Bk wr BX 40 (stC vb x.sub vu)
  pv : RF (NV BP BX vw vd) 6 valE wr vp p.vals
  xb : RF (NV BP BX vw vd) 3 srcE wr vb x.box
  xs : RF (NV BP BX vw vd) 6 valE wr vu x.sub.vals
  wo : ∃ us, wr.ownsRow base 51 1 vw H.length us ∧ ∀ (i : Nat) u, us[i]? = some u → ∃ s, H[i]? = some s ∧ RB (NV BP BX vw vd) wr u (frame (encMB s.m) 1 i 1)
  du : wr.ownsRow base 3 1 vd H.length (H.map fun s => .int .i64 (s.t + D))
  ne : ∀ g, vw.ownBlock = some g → vd.ownBlock ≠ some g
section
variable {w0 wr wr' : World} {BP BX base : Nat} {D : Int} {vw vd : Value} {p : PSt} {x : St} {H : List Snt} {vp vb vu : Value}
theorem Mem.lt (M : Mem w0 wr BP BX base D vw vd p x H vp vb vu) : ∀ g, NV BP BX vw vd g → g < wr.heap.size := by
  intro g hg
  obtain ⟨us, hw, _⟩ := M.wo
  have hb := M.bs
  have ha := M.ba
  rcases hg with rfl | rfl | hg | hg
  · omega
  · omega
  · exact (hw.lt g hg).2
  · exact (M.du.lt g hg).2
theorem Mem.to (M : Mem w0 wr BP BX base D vw vd p x H vp vb vu) (h : Ext wr wr') : Mem w0 wr' BP BX base D vw vd p x H vp vb vu := by
  obtain ⟨us, hw, hus⟩ := M.wo
  exact ⟨M.ext.trans h, M.ba, Nat.le_trans M.bs h.size, M.bp.ext h, M.bx.ext h, M.pv.ext h, M.xb.ext h, M.xs.ext h, ⟨us, own_ext hw h, fun i u hu => by obtain ⟨s, h1, h2⟩ := hus i u hu; exact ⟨s, h1, h2.ext h⟩⟩, own_ext M.du h, M.ne⟩
theorem Mem.putP (M : Mem w0 wr BP BX base D vw vd p x H vp vb vu) {p' : PSt} {vp' : Value} (r : RF (NV BP BX vw vd) 6 valE wr vp' p'.vals) : Mem w0 (put wr BP 0 (pubC p' vp').toList) BP BX base D vw vd p' x H vp' vb vu := by
  obtain ⟨us, hw, hus⟩ := M.wo
  obtain ⟨b1, b2, b3, b4, b5⟩ := M.ba
  have A := agree_put (V := NV BP BX vw vd) (B := BP) (.inl rfl) (pubC p' vp').toList 0 wr
  have A2 := agree_put (V := fun g => g < base) (B := BP) b3 (pubC p' vp').toList 0 wr
  exact ⟨put_ext b1 _ 0 _ M.ext, M.ba, by rw [put_size]; exact M.bs, put_all M.bp rfl, put_other b5 _ 0 _ M.bx, r.agree A, M.xb.agree A, M.xs.agree A, ⟨us, own_below hw A2, fun i u hu => by obtain ⟨s, h1, h2⟩ := hus i u hu; exact ⟨s, h1, h2.agree A⟩⟩, own_below M.du A2, M.ne⟩
theorem Mem.putX (M : Mem w0 wr BP BX base D vw vd p x H vp vb vu) {x' : St} {vb' vu' : Value} (r1 : RF (NV BP BX vw vd) 3 srcE wr vb' x'.box) (r2 : RF (NV BP BX vw vd) 6 valE wr vu' x'.sub.vals) : Mem w0 (put wr BX 0 (stC vb' x'.sub vu').toList) BP BX base D vw vd p x' H vp vb' vu' := by
  obtain ⟨us, hw, hus⟩ := M.wo
  obtain ⟨b1, b2, b3, b4, b5⟩ := M.ba
  have A := agree_put (V := NV BP BX vw vd) (B := BX) (.inr (.inl rfl)) (stC vb' x'.sub vu').toList 0 wr
  have A2 := agree_put (V := fun g => g < base) (B := BX) b4 (stC vb' x'.sub vu').toList 0 wr
  exact ⟨put_ext b2 _ 0 _ M.ext, M.ba, by rw [put_size]; exact M.bs, put_other (Ne.symm b5) _ 0 _ M.bp, put_all M.bx rfl, M.pv.agree A, r1.agree A, r2.agree A, ⟨us, own_below hw A2, fun i u hu => by obtain ⟨s, h1, h2⟩ := hus i u hu; exact ⟨s, h1, h2.agree A⟩⟩, own_below M.du A2, M.ne⟩
theorem Mem.putS (M : Mem w0 wr BP BX base D vw vd p x H vp vb vu) {u' : SSt} {vu' : Value} (r2 : RF (NV BP BX vw vd) 6 valE wr vu' u'.vals) : Mem w0 (put wr BX 1 (subC u' vu').toList) BP BX base D vw vd p ⟨x.box, u'⟩ H vp vb vu' := by
  obtain ⟨us, hw, hus⟩ := M.wo
  obtain ⟨b1, b2, b3, b4, b5⟩ := M.ba
  have A := agree_put (V := NV BP BX vw vd) (B := BX) (.inr (.inl rfl)) (subC u' vu').toList 1 wr
  have A2 := agree_put (V := fun g => g < base) (B := BX) b4 (subC u' vu').toList 1 wr
  exact ⟨put_ext b2 _ 1 _ M.ext, M.ba, by rw [put_size]; exact M.bs, put_other (Ne.symm b5) _ 1 _ M.bp, put_at (subC u' vu').toList (stC vb x.sub vu).toList 1 wr M.bx (by simp), M.pv.agree A, M.xb.agree A, r2.agree A, ⟨us, own_below hw A2, fun i u hu => by obtain ⟨s, h1, h2⟩ := hus i u hu; exact ⟨s, h1, h2.agree A⟩⟩, own_below M.du A2, M.ne⟩
/-- One copy more waits. -/
theorem Mem.app (M : Mem w0 wr BP BX base D vw vd p x H vp vb vu) {us : List Value} {u : Value} {m : Msg} {t : Int} {vw' vd' : Value} {W2 W4 : World}
    (hus : ∀ (i : Nat) u, us[i]? = some u → ∃ s, H[i]? = some s ∧ RB (NV BP BX vw vd) wr u (frame (encMB s.m) 1 i 1)) (hul : us.length = H.length)
    (hu : RB (NV BP BX vw vd) wr u (frame (encMB m) 1 H.length 1))
    (o2 : W2.ownsRow base 51 1 vw' (H.length + 1) (us ++ [u])) (g2 : (wr.alloc (.cells #[u] 51)).grownBy W2 vw.ownBlock) (at2 : vw'.ownBlock = vw.ownBlock ∨ vw'.ownBlock = some (wr.alloc (.cells #[u] 51)).heap.size)
    (o4 : W4.ownsRow base 3 1 vd' (H.length + 1) ((H.map fun s => .int .i64 (s.t + D)) ++ [.int .i64 (t + D)])) (g4 : (W2.alloc (.cells #[.int .i64 (t + D)] 3)).grownBy W4 vd.ownBlock) (at4 : vd'.ownBlock = vd.ownBlock ∨ vd'.ownBlock = some (W2.alloc (.cells #[.int .i64 (t + D)] 3)).heap.size) :
    Mem w0 W4 BP BX base D vw' vd' p x (H ++ [⟨m, t⟩]) vp vb vu ∧ Agree (fun g => NV BP BX vw vd g ∨ wr.heap.size ≤ g) wr W4 := by
  obtain ⟨b1, b2, b3, b4, b5⟩ := M.ba
  have hlt := M.lt
  have hs2 : wr.heap.size + 1 ≤ W2.heap.size := by have := g2.size; simp at this; omega
  have hs4 : W2.heap.size + 1 ≤ W4.heap.size := by have := g4.size; simp at this; omega
  have hvd : ∀ g, vd.ownBlock = some g → g < wr.heap.size := fun g hg => hlt g (.inr (.inr (.inr hg)))
  have hvw : ∀ g, vw.ownBlock = some g → g < wr.heap.size := fun g hg => hlt g (.inr (.inr (.inl hg)))
  have hbig : ∀ {α : Type} {k : Nat} {enc : α → List Value} {v : Value} {l : List α}, 0 < k → RF (NV BP BX vw vd) k enc wr v l → RF (fun g => NV BP BX vw vd g ∨ wr.heap.size ≤ g) k enc wr v l := fun hk h => h.weak hk (fun g hg h => h.elim id (fun h => absurd h (by omega)))
  have A : Agree (fun g => NV BP BX vw vd g ∨ wr.heap.size ≤ g) wr W4 := by
    refine (((Ext.refl wr).alloc _).agree _).trans ((Agree.of_grown g2 (fun k hk => .inl (.inr (.inr (.inl hk))))).trans ((((Ext.refl W2).alloc _).agree _).trans (Agree.of_grown g4 (fun k hk => .inl (.inr (.inr (.inr hk)))))))
  have hNV : ∀ g, NV BP BX vw' vd' g → NV BP BX vw vd g ∨ wr.heap.size ≤ g := fun g hg => by
    rcases hg with hg | hg | hg | hg
    · exact .inl (.inl hg)
    · exact .inl (.inr (.inl hg))
    · rcases at2 with e | e
      · rw [e] at hg; exact .inl (.inr (.inr (.inl hg)))
      · rw [e] at hg; injection hg with hg; simp at hg; exact .inr (by omega)
    · rcases at4 with e | e
      · rw [e] at hg; exact .inl (.inr (.inr (.inr hg)))
      · rw [e] at hg; injection hg with hg; simp at hg; exact .inr (by omega)
  have fin : ∀ {α : Type} {k : Nat} {enc : α → List Value} {v : Value} {l : List α}, 0 < k → RF (NV BP BX vw vd) k enc wr v l → RF (NV BP BX vw' vd') k enc W4 v l := fun hk h => ((hbig hk h).agree A).weak hk (fun g _ hg => hNV g hg)
  have finB : ∀ {v : Value} {bs : List Int}, RB (NV BP BX vw vd) wr v bs → RB (NV BP BX vw' vd') W4 v bs := fun h => ((h.weak (V' := fun g => NV BP BX vw vd g ∨ wr.heap.size ≤ g) (fun g hg h => h.elim id (fun h => absurd h (by omega)))).agree A).weak (fun g _ hg => hNV g hg)
  have E : Ext w0 W4 := ((((M.ext.alloc _).grown g2 (fun k hk => Nat.le_trans (Nat.le_trans b1 (Nat.le_of_lt b3)) (by obtain ⟨_, hw, _⟩ := M.wo; exact (hw.lt k hk).1))).alloc _).grown g4 (fun k hk => Nat.le_trans (Nat.le_trans b1 (Nat.le_of_lt b3)) (M.du.lt k hk).1))
  have keep : ∀ {g : Nat} {tt : TypeId} {cs : Array Value}, Bk wr g tt cs → g < base → Bk W4 g tt cs := fun {g tt cs} hb hg => by
    have h1 : Bk (wr.alloc (.cells #[u] 51)) g tt cs := hb.alloc _
    have h2 : Bk W2 g tt cs := (g2.block g h1.lt (fun e => by obtain ⟨_, hw, _⟩ := M.wo; have := (hw.lt g e.symm).1; omega)).trans h1
    have h3 : Bk (W2.alloc (.cells #[.int .i64 (t + D)] 3)) g tt cs := h2.alloc _
    exact (g4.block g h3.lt (fun e => by have := (M.du.lt g e.symm).1; omega)).trans h3
  refine ⟨⟨E, M.ba, by have := M.bs; omega, keep M.bp b3, keep M.bx b4, fin (by omega) M.pv, fin (by omega) M.xb, fin (by omega) M.xs, ⟨us ++ [u], ?_, fun i v hv => ?_⟩, ?_, fun g hg hg' => ?_⟩, A⟩
  · rw [List.length_append, List.length_singleton]
    refine own_grown (own_ext o2 ((Ext.refl W2).alloc _)) g4 (fun g hg e => ?_)
    rcases at2 with e2 | e2
    · rw [e2] at hg; exact M.ne g hg e
    · rw [e2] at hg; injection hg with hg; simp at hg; have := hvd g e; omega
  · by_cases hi : i < H.length
    · rw [List.getElem?_append_left (by omega)] at hv
      obtain ⟨s, h1, h2⟩ := hus i v hv
      exact ⟨s, by rw [List.getElem?_append_left hi]; exact h1, finB h2⟩
    · have hi2 := get_lt hv
      simp only [List.length_append, List.length_singleton] at hi2
      obtain rfl : i = H.length := by omega
      rw [List.getElem?_append_right (by omega), hul, Nat.sub_self] at hv
      simp only [List.getElem?_cons_zero, Option.some.injEq] at hv
      subst hv
      exact ⟨⟨m, t⟩, by simp, finB hu⟩
  · rw [List.length_append, List.length_singleton, List.map_append]
    exact o4
  · rcases at4 with e4 | e4
    · rw [e4] at hg'
      rcases at2 with e2 | e2
      · rw [e2] at hg; exact M.ne g hg hg'
      · rw [e2] at hg; injection hg with hg; simp at hg; have := hvd g hg'; omega
    · rw [e4] at hg'; injection hg' with hg'; simp at hg'
      have := (o2.lt g hg).2
      omega
end
/-! ### What holds behind 'q, m := publisher.Step(p, ..)' -/
def VN (V : Nat → Prop) (wr W : World) : Nat → Prop := fun g => V g ∨ (wr.heap.size ≤ g ∧ g < W.heap.size)
def AftQ (V : Nat → Prop) (wr wx : World) (qb : Nat) (n : PSt) (ms : List Msg) (a5 : Option Addr) (c5 : Nat) (a6 : Option Addr) (c6 : Nat) : Prop :=
  Bk wx qb 29 (pubC n (.slice a5 n.vals.length c5)) ∧ RF V 6 valE wx (.slice a5 n.vals.length c5) n.vals ∧ RS V 10 (msgRep V) wx (.slice a6 ms.length c6) ms ∧ Ext wr wx ∧ wr.heap.size ≤ qb
theorem msgRep.weak {V V' : Nat → Prop} {w : World} {m : Msg} {cs : List Value} (h : msgRep V w m cs) (hv : ∀ g, g < w.heap.size → V' g → V g) : msgRep V' w m cs := by
  obtain ⟨a, c, e, hr⟩ := h
  exact ⟨a, c, e, hr.weak (by omega) hv⟩
section
variable {V : Nat → Prop} {wr W w5 : World} {qb : Nat} {Z : Array Value} {n : PSt} {ms : List Msg} {a5 a6 : Option Addr} {c5 c6 : Nat}
theorem aftQ_put (hE : Ext wr W) (hV : ∀ g, V g → g < wr.heap.size) (x5 : Ext W w5) (hT : Bk W qb 29 Z) (hz : Z.size = 13) (hle : wr.heap.size ≤ qb)
    (r5 : RF (Old W) 6 valE w5 (.slice a5 n.vals.length c5) n.vals) (m5 : RS (Old W) 10 (msgRep (Old W)) w5 (.slice a6 ms.length c6) ms) : AftQ V wr (put w5 qb 0 (pubC n (.slice a5 n.vals.length c5)).toList) qb n ms a5 c5 a6 c6 := by
  have A := agree_put (V := Old W) (B := qb) hT.lt (pubC n (.slice a5 n.vals.length c5)).toList 0 w5
  have hw : ∀ g, V g → Old W g := fun g hg => hE.lt (hV g hg)
  exact ⟨put_all (hT.ext x5) (by rw [hz]; rfl), (r5.agree A).weak (by omega) (fun g _ hg => hw g hg), RS.weak (RS.agree m5 A (fun _ _ _ hm => msgRep.agree hm A)) (by omega) (fun g _ hg => hw g hg) (fun _ _ _ hm => msgRep.weak hm (fun g _ hg => hw g hg)), put_ext hle _ 0 _ (hE.trans x5), hle⟩
theorem aftQ_new (hE : Ext wr W) (hV : ∀ g, V g → g < wr.heap.size) (x5 : Ext W w5)
    (r5 : RF (Old W) 6 valE w5 (.slice a5 n.vals.length c5) n.vals) (m5 : RS (Old W) 10 (msgRep (Old W)) w5 (.slice a6 ms.length c6) ms) : AftQ V wr (w5.alloc (.cells (pubC n (.slice a5 n.vals.length c5)) 29)) w5.heap.size n ms a5 c5 a6 c6 := by
  have A : Agree (Old W) w5 (w5.alloc (.cells (pubC n (.slice a5 n.vals.length c5)) 29)) := ((Ext.refl w5).alloc _).agree _
  have hw : ∀ g, V g → Old W g := fun g hg => hE.lt (hV g hg)
  exact ⟨Bk.new _ _ _ _ rfl, (r5.agree A).weak (by omega) (fun g _ hg => hw g hg), RS.weak (RS.agree m5 A (fun _ _ _ hm => msgRep.agree hm A)) (by omega) (fun g _ hg => hw g hg) (fun _ _ _ hm => msgRep.weak hm (fun g _ hg => hw g hg)), (hE.trans x5).alloc _, (hE.trans x5).size⟩
end
/-! ### The plain part of the loop's relation -/
structure Lrel (n : Nat) (D : Int) (k : Nat) (p : PSt) (x : St) (H : List Snt) (g : Nat → Bool) (last : Int) : Prop where
  pi : Pinv ((k : Int) - 1) p H
  si : StInv 1 0 ((k : Int) - 1) H g x
  ar : ∀ (f : Nat) s, H[f]? = some s → s.t + D ≤ (k : Int) - 1 → g f = true
  hv : ∀ s ∈ H, (n : Int) ≤ s.t + 1 → s.m.vals = valsI last
  hl : H.length ≤ k
theorem Lrel.new (n : Nat) (D : Int) : Lrel n D 0 (newS 5 2 9 77) ⟨[], newSub 5 77⟩ [] (fun _ => false) 0 :=
  ⟨Pinv.new, StInv.new _ _ _ _, fun f s h => (by simp at h), fun s h => (by cases h), by simp⟩
/-- Within a step, when the clock has gone on and the first i waiting copies have been looked at. -/
structure Mrel (D : Int) (k i : Nat) (H : List Snt) (g : Nat → Bool) (u0 : SSt) (x : St) (g1 : Nat → Bool) : Prop where
  si : StInv 1 0 (k : Int) H g1 x
  up : ∀ f, g f = true → g1 f = true
  ar : ∀ (f : Nat) s, f < i → H[f]? = some s → s.t + D = (k : Int) → g1 f = true
  mo : u0.known = true → x.sub.known = true ∧ u0.state ≤ x.sub.state
theorem Mrel.start {n : Nat} {D : Int} {k : Nat} {p : PSt} {x : St} {H : List Snt} {g : Nat → Bool} {last : Int} (h : Lrel n D k p x H g last) : Mrel D k 0 H g (tickS x.sub) ⟨x.box, tickS x.sub⟩ g := by
  have h1 := h.si.tick
  rw [show (k : Int) - 1 + 1 = k by omega] at h1
  exact ⟨h1, fun _ h => h, fun f s h => (by omega), fun h => ⟨h, Int.le_refl _⟩⟩
theorem Mrel.skip {D : Int} {k i : Nat} {H : List Snt} {g : Nat → Bool} {u0 : SSt} {x : St} {g1 : Nat → Bool} (h : Mrel D k i H g u0 x g1) (hs : ∀ s, H[i]? = some s → s.t + D ≠ k) : Mrel D k (i + 1) H g u0 x g1 :=
  ⟨h.si, h.up, fun f s hf hh he => by
    by_cases hi : f = i
    · subst hi; exact absurd he (hs s hh)
    · exact h.ar f s (by omega) hh he, h.mo⟩
theorem Mrel.take {D : Int} {k i : Nat} {H : List Snt} {g : Nat → Bool} {u0 : SSt} {x : St} {g1 : Nat → Bool} (h : Mrel D k i H g u0 x g1) (hR : Row1 k H) (f : Nat) (s : Snt) (hf : H[f]? = some s) (ht : (k : Int) ≤ s.t + 5) (hl : H.length ≤ 200) :
    Mrel D k i H g u0 (takeF 1 x s.m ((f : Int) % 65536)) (fun j => g1 j || decide (j = f)) := by
  obtain ⟨h1, h2⟩ := arrive (by omega) hR h.si hf ht (by have := get_lt hf; omega)
  rw [show (0 : Int) + (f : Int) = f by omega] at h1 h2
  refine ⟨h1, fun j hj => by simp [h.up j hj], fun j s' hj hh he => by simp [h.ar j s' hj hh he], fun hk => ?_⟩
  obtain ⟨m1, m2⟩ := h.mo hk
  obtain ⟨m3, m4⟩ := h2 m1
  exact ⟨m3, by omega⟩
theorem Mrel.done {n : Nat} {D : Int} {k : Nat} {p p' : PSt} {x x1 : St} {H : List Snt} {g g1 : Nat → Bool} {last last' : Int} {u0 : SSt} (h : Lrel n D k p x H g last) (hp : Pinv (k : Int) p' H) (hl : k < n ∨ last' = last) (m : Mrel D k H.length H g u0 x1 g1) : Lrel n D (k + 1) p' x1 H g1 last' := by
  have e : ((k + 1 : Nat) : Int) - 1 = k := by omega
  refine ⟨by rw [e]; exact hp, by rw [e]; exact m.si, fun f s hf ht => ?_, fun s hs hn => ?_, by have := h.hl; omega⟩
  · rw [e] at ht
    by_cases he : s.t + D = k
    · exact m.ar f s (get_lt hf) hf he
    · exact m.up f (h.ar f s hf (by omega))
  · rcases hl with hk | rfl
    · have := (h.pi.row.fine s hs).2.2; omega
    · exact h.hv s hs hn
theorem Mrel.more {n : Nat} {D : Int} {k : Nat} {p p' : PSt} {x x1 : St} {H : List Snt} {g g1 : Nat → Bool} {last last' : Int} {u0 : SSt} {m : Msg} (h : Lrel n D k p x H g last) (hp : Pinv (k : Int) p' (H ++ [⟨m, k⟩])) (hv : m.vals = valsI last') (hl : k < n ∨ last' = last) (hD : 1 ≤ D) (mr : Mrel D k H.length (H ++ [⟨m, k⟩]) g u0 x1 g1) : Lrel n D (k + 1) p' x1 (H ++ [⟨m, k⟩]) g1 last' := by
  have e : ((k + 1 : Nat) : Int) - 1 = k := by omega
  refine ⟨by rw [e]; exact hp, by rw [e]; exact mr.si, fun f s hf ht => ?_, fun s hs hn => ?_, by have := h.hl; simp; omega⟩
  · rw [e] at ht
    by_cases hfl : f < H.length
    · by_cases he : s.t + D = k
      · exact mr.ar f s hfl hf he
      · rw [List.getElem?_append_left hfl] at hf
        exact mr.up f (h.ar f s hf (by omega))
    · have := get_lt hf
      simp at this
      obtain rfl : f = H.length := by omega
      simp at hf
      subst hf
      simp only at ht
      omega
  · simp only [List.mem_append, List.mem_singleton] at hs
    rcases hs with hs | rfl
    · rcases hl with hk | rfl
      · have := (h.pi.row.fine s hs).2.2; omega
      · exact h.hv s hs hn
    · exact hv
theorem Mrel.snoc {D : Int} {k i : Nat} {H : List Snt} {g : Nat → Bool} {u0 : SSt} {x : St} {g1 : Nat → Bool} (h : Mrel D k i H g u0 x g1) (hi : i ≤ H.length) (s : Snt) : Mrel D k i (H ++ [s]) g u0 x g1 :=
  ⟨h.si.snoc s, h.up, fun f s' hf hh he => by rw [List.getElem?_append_left (by omega)] at hh; exact h.ar f s' hf hh he, h.mo⟩
theorem StInv.ok {src st c : Int} {H : List Snt} {g : Nat → Bool} {x : St} (hR : Row1 c H) (h : StInv src st c H g x) : x.sub.vals.length ≤ 100 ∧ (0 ≤ x.sub.lost ∧ x.sub.lost ≤ 1000000) ∧ x.sub.left ≤ 1000 ∧ x.box.length ≤ 1 ∧ (∀ y ∈ x.box, WfX y) := by
  obtain ⟨b1, b2⟩ := TwinO.len h.box
  rcases h.sub with ⟨_, h2⟩ | ⟨top, s, _, _, h3, h4⟩
  · rw [h2]
    exact ⟨by simp [newSub], by simp [newSub], by simp [newSub], b1, b2⟩
  · have := (chkM_zeroS ((hR.fine s (List.mem_of_getElem? h3)).1).chk).2.2.2.2.2.2.2.2
    rw [h4.vals]
    exact ⟨by omega, h4.lo, h4.l1, b1, b2⟩
/-- A station takes a copy: the contract, where the law calls it. -/
theorem take_at {w0 wr w1 : World} {BP BX base : Nat} {D c : Int} {vw vd : Value} {p : PSt} {x : St} {H : List Snt} {zp zb zu u : Value} {g : Nat → Bool} (M : Mem w0 wr BP BX base D vw vd p x H zp zb zu) {H' : List Snt} (hR : Row1 c H') (h : StInv 1 0 c H' g x) {f : Nat} {s : Snt} (hf : H'[f]? = some s) (hl : H'.length ≤ 200)
    (net : Int) (hnet : net = 0 ∨ net = 1) (he : Ext wr w1) (hu : RB Any w1 u (frame (encMB s.m) 1 f net)) : Calls Try.prog 11 #[stA zb x.sub zu, u] w1 (RetStn (NV BP BX vw vd) w1 (takeF 1 x s.m ((f : Int) % 65536))) := by
  obtain ⟨k1, k2, k3, k4, k5⟩ := h.ok hR
  have hfi := (hR.fine s (List.mem_of_getElem? hf)).1
  have hfl := get_lt hf
  rw [show (f : Int) % 65536 = f by omega]
  refine take17_any x s.m 1 f net zb zu u w1 ((M.xb.ext he).weak (by omega) (V' := Any) (fun _ _ h => h.elim)) (M.xs.ext he) (fun g hg => he.lt (M.lt g hg)) hu ?_ hnet (encMB_len hfi.chk hfi.enc) hfi.enc hfi.inn (by omega) k5 (by omega) k2
  unfold word
  rw [decide_eq_true (by omega), decide_eq_true (by omega), decide_eq_true (by omega), decide_eq_true (by omega)]
  rfl
/-- The same, as the walk of the law meets it. -/
theorem Mem.app_at {w0 wr W2 W4 : World} {BP BX base nh BB : Nat} {D k d : Int} {vw vd vp vb vu vw' vd' u : Value} {p : PSt} {x : St} {H : List Snt} {ds us : List Value} {m : Msg} {tt : TypeId} {cs : Array Value}
    (M : Mem w0 wr BP BX base D vw vd p x H vp vb vu) (hn : H.length = nh) (hds : (H.map fun s => Value.int .i64 (s.t + D)) = ds) (hD : D = d) (hw : wrap64 (k + d) = k + d)
    (hus : ∀ (i : Nat) u, us[i]? = some u → ∃ s, H[i]? = some s ∧ RB (NV BP BX vw vd) wr u (frame (encMB s.m) 1 i 1)) (hul : us.length = nh * 1) (hu : RB (NV BP BX vw vd) wr u (frame (encMB m) 1 nh 1))
    (o2 : W2.ownsRow base 51 1 vw' (nh + 1) (us ++ [u])) (g2 : (wr.alloc (.cells #[u] 51)).grownBy W2 vw.ownBlock ∧ (vw'.ownBlock = vw.ownBlock ∨ vw'.ownBlock = some (wr.alloc (.cells #[u] 51)).heap.size))
    (o4 : W4.ownsRow base 3 1 vd' (nh + 1) (ds ++ [.int .i64 (wrap64 (k + d))])) (g4 : (W2.alloc (.cells #[.int .i64 (wrap64 (k + d))] 3)).grownBy W4 vd.ownBlock ∧ (vd'.ownBlock = vd.ownBlock ∨ vd'.ownBlock = some (W2.alloc (.cells #[.int .i64 (wrap64 (k + d))] 3)).heap.size))
    (hB : Bk wr BB tt cs) (hNB : ¬ NV BP BX vw vd BB) : Mem w0 W4 BP BX base D vw' vd' p x (H ++ [⟨m, k⟩]) vp vb vu ∧ Bk W4 BB tt cs := by
  subst hn hds hD
  rw [hw] at o4 g4
  obtain ⟨h1, h2⟩ := Mem.app M hus (by omega) hu o2 g2.1 g2.2 o4 g4.1 g4.2
  exact ⟨h1, (h2.2 BB hB.lt (fun h => h.elim hNB (fun h => absurd hB.lt (Nat.not_lt.2 h)))).trans hB⟩
end Go.Proofs.Ytimnepfdpehdmaa
