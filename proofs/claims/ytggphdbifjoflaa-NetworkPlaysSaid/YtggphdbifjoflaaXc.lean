import Derived.Test.YtggphdbifjoflaaXa
import Derived.Test.YtggphdbifjoflaaU
namespace Go.Proofs.Ytggphdbifjoflaa
open Go.RowKit
variable {W w : World} {L : List Seg} {v : Value} {l : List UInt8} {b : Nat} {N x y : Int} {ps : List Pcl}

/-! The law's equality of two parcels. -/
set_option maxRecDepth 100000 in
set_option maxHeartbeats 1600000 in
theorem same_any (x y x' y' : Int) (A A' : Option Addr) (n c n' c' : Nat) (d d' : List UInt8) (h : H W w L) (h1 : RL L (.slice A n c) d) (h2 : RL L (.slice A' n' c') d') :
    Calls Try.prog 17 #[.agg #[.int .i64 x, .int .i64 y, .slice A n c], .agg #[.int .i64 x', .int .i64 y', .slice A' n' c']] w (PBool (x == x' && y == y' && d == d') fun w' => H W w' L) := by
  have h0 := (h.alloc (.cells #[.int .i64 x, .int .i64 y, .slice A n c] 30)).alloc (.cells #[.int .i64 x', .int .i64 y', .slice A' n' c'] 43)
  have cv1 := RL.conv h0 ((h1.cons _).cons _)
  have cv2 := RL.conv h0 ((h2.cons _).cons _)
  have h0' := Lib.hid h0.drop.drop
  clear h h1 h2 h0
  cases e1 : x == x'
  · have e1' := Lib.hid e1
    go_enter Try.func17, Try.ntmps17
    go_wp2_with fail
    go_ret
    exact ⟨by simp, h0'.out⟩
  · cases e2 : y == y'
    · have e1' := Lib.hid e1
      have e2' := Lib.hid e2
      go_enter Try.func17, Try.ntmps17
      go_wp2_with fail
      go_ret
      exact ⟨by simp, h0'.out⟩
    · have e1' := Lib.hid e1
      have e2' := Lib.hid e2
      have e3' := Lib.hid (show ((bstr d).toList == (bstr d').toList) = (d == d') by rw [bstr_toList, bstr_toList])
      go_enter Try.func17, Try.ntmps17
      go_wp2_with fail
      go_ret
      exact ⟨by simp [e3'.out], h0'.out⟩
end Go.Proofs.Ytggphdbifjoflaa
