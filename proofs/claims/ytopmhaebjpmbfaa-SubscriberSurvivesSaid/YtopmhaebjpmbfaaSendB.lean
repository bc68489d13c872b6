/- send, whatever is sent: layer 14. -/
import Derived.Test.YtopmhaebjpmbfaaSendA
namespace Go.Proofs.Ytopmhaebjpmbfaa
open Go.RowKit
theorem send_any (p : PSt) (s : SSt) (k : Int) (lost : Bool) (vp vs : Value) (w : World) (hp : RF Any 6 valE w vp p.vals) (hs : RF Any 6 valE w vs s.vals) (hpl : p.vals.length ≤ 1000000000) (hsl : s.vals.length ≤ 1000000000) (hm : Mod p) (hlf : s.left ≤ 1000000) (hlo : -9223372036854775808 ≤ s.lost ∧ s.lost ≤ 9223372036854775807 - 100000000000) :
    Calls Try.prog 41 #[pubA p vp, subA s vs, .int .i64 k, .bool lost] w (RetPS w (sendPS p s (valsOf k) lost)) := by
  unfold sendPS
  rcases stepS_len p (valsOf k) 0 0 0 with h | ⟨x, h⟩
  · rw [h]
    exact send_none p s k lost vp vs w hp hs hpl hsl hm hlf h
  · rw [h]
    cases lost
    · exact send_got p s k vp vs w hp hs hpl hsl hm hlf hlo x h
    · exact send_lost p s k vp vs w hp hs hpl hsl hm hlf x h
end Go.Proofs.Ytopmhaebjpmbfaa
