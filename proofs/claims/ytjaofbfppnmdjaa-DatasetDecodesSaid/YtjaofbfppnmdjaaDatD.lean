/- Encode and known of layer 11. -/
import Derived.Test.YtjaofbfppnmdjaaDatC
namespace Go.Proofs.Ytjaofbfppnmdjaa
open Go.RowKit
attribute [local go_sem ↓] Go.wp_at_zero Go.wp_at_succ

/-- The bytes of values, and their error. -/
def encDB (l : List Val) : List Int := if vErr l = 0 then encOut 1 (l.map (nodeV 0)) else []
def encDE (l : List Val) : Int := if vErr l = 0 then encErr 1 (l.map (nodeV 0)) else vErr l
theorem vErr_zero : ∀ (l : List Val), vErr l = 0 → ∀ x ∈ l, chk x = 0
  | [], _, x, hx => by cases hx
  | y :: l, h, x, hx => by
    simp only [vErr] at h
    split at h
    · rename_i h0
      cases hx with
      | head => exact h0
      | tail _ hx => exact vErr_zero l h x hx
    · rename_i h0; exact absurd h h0
theorem cnt_vals (m : Nat) : ∀ (l : List Val), vErr l = 0 → cntS (cntN m) (l.map (nodeV m)) ≤ 73 * l.length
  | [], _ => by simp [cntS]
  | x :: l, h => by
    have h1 := vErr_zero _ h x (by simp)
    have h2 : vErr l = 0 := by simp only [vErr, h1, if_true] at h; exact h
    have ih := cnt_vals m l h2
    have h3 := datV_len x h1
    have h4 : cntN m [] = 0 := by cases m <;> rfl
    simp only [cntS, List.map_cons, List.length_cons, List.length_map, List.sum_cons, nodeV, h4, List.map_map] at ih ⊢
    have e : ((fun x : NodeOf (Nd m) => x.2.1.length + cntN m x.2.2) ∘ nodeV m) = fun x => (datV x).length := by
      funext y; simp [nodeV, h4]
    simp only [e] at ih ⊢
    omega
set_option maxRecDepth 100000 in
set_option maxHeartbeats 2000000 in
theorem encDP_any {V : Nat → Prop} (l : List Val) (v : Value) (w : World) (h : RF V 6 valE w v l) (hl : l.length ≤ 1000000) : Calls Try.prog 17 #[v] w (RetBE w (encDB l) (encDE l)) := by
  have HN := Lib.hid (nodesP_any 0 l v w h hl)
  by_cases he : vErr l = 0
  · have HE : Hid (∀ w1 a c, Ext w w1 → (nodesRk (RkN 0)).rk (Old w) w1 (.slice a l.length c) (l.map (nodeV 0)) → Calls Try.prog 46 #[.slice a l.length c] w1 (RetBE w1 (encDB l) (encDE l))) := fun w1 a c hx hr => by
      have := encodeP_any 1 (Old w) (l.map (nodeV 0)) (.slice a l.length c) w1 hr (Nat.le_trans (cnt_vals 0 l he) (by omega))
      unfold encDB encDE
      rw [if_pos he, if_pos he]
      exact this
    generalize encDB l = D at *
    generalize encDE l = E at *
    clear h
    go_enter Try.func17, Try.ntmps17
    go_wp2_with fail
    refine HN.out.mono ?_
    rintro e w1 (⟨h0, _⟩ | ⟨_, a1, c1, rfl, x1, r1⟩)
    · exact absurd he h0
    have HE1 := Lib.hid (HE.out w1 a1 c1 x1 r1)
    clear r1 HE HN he
    generalize l.length = n at *
    go_wp2_with fail
    refine HE1.out.mono ?_
    rintro e w2 ⟨a2, c2, rfl, x2, r2⟩
    go_wp2_with fail
    go_ret2
    exact ⟨a2, c2, rfl, x1.trans x2, fun V hV => r2 V (fun k hk => x1.lt (hV k hk))⟩
  · have hD : encDB l = [] := by unfold encDB; rw [if_neg he]
    have hE : encDE l = vErr l := by unfold encDE; rw [if_neg he]
    rw [hD, hE]
    have heb : (vErr l != 0) = true := by simpa using he
    have HE := Lib.hid he
    clear h hD hE
    go_enter Try.func17, Try.ntmps17
    go_wp2_with fail
    refine HN.out.mono ?_
    rintro e w1 (⟨_, rfl, x1⟩ | ⟨h0, _⟩)
    · clear HN he
      generalize vErr l = ee at *
      go_wp2_with fail
      go_ret2
      exact RetBE.nil _ x1
    · exact absurd h0 he
def tru (b : Bool) : Val := ⟨1, if b then 1 else 0, ⟨#[]⟩, 0, 0, 0⟩
theorem truth_any (b : Bool) (w : World) : Calls Try.prog 29 #[.bool b] w fun e w' => e = .returned (valA (tru b)) ∧ Ext w w' := by
  cases b
  · go_enter Try.func29, Try.ntmps29
    go_wp2
    exact bodyPost_ret (v := .agg #[.int .i64 1, .int .i64 0, .string ⟨#[]⟩, .int .i64 0, .int .i64 0, .int .i64 0]) (by simp [results, Try.results29, go_sem]) rfl ⟨rfl, (Ext.refl _).alloc _⟩
  · go_enter Try.func29, Try.ntmps29
    go_wp2
    exact bodyPost_ret (v := .agg #[.int .i64 1, .int .i64 1, .string ⟨#[]⟩, .int .i64 0, .int .i64 0, .int .i64 0]) (by simp [results, Try.results29, go_sem]) rfl ⟨rfl, (Ext.refl _).alloc _⟩
/-- One value in a slice of its own. -/
theorem RF.single (w : World) (cs : Array Value) (x : Val) (B : Nat) (hB : w.heap.size = B) (hc : cs.toList = valE x) : RF Any 6 valE (w.alloc (.cells cs 43)) (.slice (some ⟨B, 0, none⟩) 1 1) [x] :=
  RS.one w cs 43 B hB x (by rw [← Array.length_toList, hc]; rfl) hc (fun h => h)
def knownV : List Val := [⟨2, -1, ⟨#[]⟩, 0, 0, 0⟩]
theorem knownV_out : encDB knownV = [133, 1, 255] ∧ encDE knownV = 0 := by decide +kernel
set_option maxRecDepth 100000 in
theorem known11_any (w : World) : Calls Try.prog 15 #[] w fun e w' => e = .returned (.bool true) ∧ Ext w w' := by
  have HE := Lib.hid (encDP_any knownV _ _ (RF.single w #[.int .i64 2, .int .i64 (-1), .string ⟨#[]⟩, .int .i64 0, .int .i64 0, .int .i64 0] ⟨2, -1, ⟨#[]⟩, 0, 0, 0⟩ _ rfl rfl) (by decide))
  rw [knownV_out.1, knownV_out.2] at HE
  have HT := Lib.hid (fun w1 => truth_any true w1)
  simp only [tru, if_true] at HT
  have hfd : ∀ W : World, (Instr.field 43 (.agg #[.int .i64 1, .int .i64 1, .string ⟨#[]⟩, .int .i64 0, .int .i64 0, .int .i64 0]) 1).run Try.prog W = .ok (.int .i64 1) W := fun W => by kernel_rfl
  go_enter Try.func15, Try.ntmps15
  go_wp2_with fail
  refine HE.out.mono ?_
  rintro e w1 ⟨a1, c1, rfl, x1, r1⟩
  have hcv : (convert 25 9 (.slice a1 3 c1)).run Try.prog w1 = .ok (.string (strOfNums [133, 1, 255])) w1 := (r1 Any (fun _ h => h.elim)).conv (P := Try.prog) 25 9 5 Try.underlying25 Try.underlying5 Try.underlying9
  have hx : Ext w w1 := ((Ext.refl w).alloc _).trans x1
  obtain ⟨s, hs⟩ : ∃ s, s = strOfNums [133, 1, 255] := ⟨_, rfl⟩
  rw [← hs] at hcv
  have hsz : (s.toList == [133, 1, 255]) = true := by rw [hs]; decide +kernel
  clear HE r1 x1 hs
  go_wp2_with fail
  refine (HT.out _).mono ?_
  rintro e w2 ⟨rfl, x2⟩
  go_wp2_with fail
  go_ret
  exact ⟨rfl, hx.trans x2⟩
end Go.Proofs.Ytjaofbfppnmdjaa
