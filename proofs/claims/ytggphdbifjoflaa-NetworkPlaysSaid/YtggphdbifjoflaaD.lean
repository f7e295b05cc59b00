import Derived.Test.YtggphdbifjoflaaB
namespace Go.Proofs.Ytggphdbifjoflaa
open Go.RowKit
variable {W w : World} {L : List Seg} {v : Value} {l : List UInt8} {b : Nat} {N x y : Int} {ps : List Pcl}
/-- bit p of the group -/
def inB (g p : Int) : Bool := bits .and .i64 (g / 2 ^ p.toNat) 1 == 1

set_option maxHeartbeats 400000 in
theorem in_any (g p : Int) (w : World) (h0 : 0 ≤ p) (h1 : p < 62) : Calls Try.prog 27 #[.int .i64 g, .int .i64 p] w fun e w' => e = .returned (.bool (inB g p)) ∧ w = w' := by
  go_enter Try.func27, Try.ntmps27
  go_wp2
  go_ret
  exact ⟨rfl, rfl⟩
set_option maxHeartbeats 400000 in
theorem in_ref (g p : Int) (w : World) (h0 : 0 ≤ p) (h1 : p < 62) : Calls Try.prog 28 #[.int .i64 g, .int .i64 p] w fun e w' => e = .returned (.bool (inB g p)) ∧ w = w' := by
  go_enter Try.func28, Try.ntmps28
  go_wp2
  go_ret
  exact ⟨rfl, rfl⟩

def PBool (c : Bool) (P : World → Prop) (e : Ending) (w' : World) : Prop := e = .returned (.bool c) ∧ P w'

/-- What a closure over the group says of a parcel. -/
def flowB (g x y : Int) : Bool := inB g x && inB g y
def discB (g x y : Int) : Bool := inB g x != inB g y

set_option maxHeartbeats 400000 in
theorem flow1 (g : Int) (A : Option Addr) (n c : Nat) (bx : Nat) (h : H W w ([(bx, .cells #[.int .i64 g] 3 (0, 0))] :: L)) (hx0 : 0 ≤ x) (hx1 : x < 62) (hy0 : 0 ≤ y) (hy1 : y < 62) :
    Calls Try.prog 26 #[.agg #[.int .i64 x, .int .i64 y, .slice A n c], .pointer (some ⟨bx, 0, none⟩)] w (PBool (flowB g x y) fun w' => H W w' ([(bx, .cells #[.int .i64 g] 3 (0, 0))] :: L)) := by
  have c0 : w.cell? ⟨bx, 0, none⟩ = some (.int .i64 g) := h.cellAt 0 0 0 rfl rfl rfl
  have hb := h.ltAt 0 0 rfl rfl
  have h' := Lib.hid h
  clear h
  cases e1 : inB g x
  · have e1' := Lib.hid e1
    clear e1
    go_enter Try.func26, Try.ntmps26
    go_wp2_with (go_at_call 27; refine (in_any _ _ _ (by assumption) (by assumption)).mono ?_; rintro e w1 ⟨rfl, rfl⟩; rw [e1'.out])
    go_ret
    exact ⟨by simp [flowB, e1'.out], (h'.out.alloc _).drop⟩
  · have e1' := Lib.hid e1
    clear e1
    go_enter Try.func26, Try.ntmps26
    go_wp2_with (go_at_call 27; refine (in_any _ _ _ (by assumption) (by assumption)).mono ?_; rintro e w1 ⟨rfl, rfl⟩; try rw [e1'.out])
    go_ret
    exact ⟨by simp [flowB, e1'.out], (h'.out.alloc _).drop⟩

set_option maxHeartbeats 400000 in
theorem disc1 (g : Int) (A : Option Addr) (n c : Nat) (bx : Nat) (h : H W w ([(bx, .cells #[.int .i64 g] 3 (0, 0))] :: L)) (hx0 : 0 ≤ x) (hx1 : x < 62) (hy0 : 0 ≤ y) (hy1 : y < 62) :
    Calls Try.prog 29 #[.agg #[.int .i64 x, .int .i64 y, .slice A n c], .pointer (some ⟨bx, 0, none⟩)] w (PBool (discB g x y) fun w' => H W w' ([(bx, .cells #[.int .i64 g] 3 (0, 0))] :: L)) := by
  have c0 : w.cell? ⟨bx, 0, none⟩ = some (.int .i64 g) := h.cellAt 0 0 0 rfl rfl rfl
  have hb := h.ltAt 0 0 rfl rfl
  have h' := Lib.hid h
  clear h
  go_enter Try.func29, Try.ntmps29
  go_wp2_with fail
  go_quiet ((go_at_call 27; exact Calls.quiet_of_same ((in_any _ _ _ (by assumption) (by assumption)).mono fun _ _ ⟨q1, q2⟩ => ⟨q1, q2.symm⟩)))
  go_wp2_with fail
  go_ret
  exact ⟨rfl, ((h'.out.alloc _).drop).drewN _⟩

set_option maxRecDepth 100000 in
set_option maxHeartbeats 400000 in
theorem send_nil (x y : Int) (v : Value) (hH : H W w L) : Calls Try.prog 8 #[.pointer none, .agg #[.int .i64 x, .int .i64 y, v]] w (PErr 1 fun w' => H W w' L) := by
  go_enter Try.func8, Try.ntmps8
  go_wp2_with fail
  go_quiet (fail)
  go_wp2_with fail
  go_ret
  exact ⟨rfl, ((hH.alloc _).drop).drewN _⟩

def badP (N x y : Int) : Bool := decide (x < 0) || decide (N ≤ x) || decide (y < 0) || decide (N ≤ y)

set_option maxRecDepth 100000 in
set_option maxHeartbeats 1600000 in
theorem send_bad (x y : Int) (A : Option Addr) (n c : Nat) (hH : H W w L) (hp : w.cell? ⟨b, 0, none⟩ = some (.int .i64 N)) (hbad : x < 0 ∨ N ≤ x ∨ y < 0 ∨ N ≤ y) :
    Calls Try.prog 8 #[.pointer (some ⟨b, 0, none⟩), .agg #[.int .i64 x, .int .i64 y, .slice A n c]] w (PErr 1 fun w' => H W w' L) := by
  have hb : b < w.heap.size := World.block_lt_of_cell? _ _ hp
  have h' := Lib.hid hH
  clear hH
  by_cases c1 : x < 0
  · have e1 : decide (x < 0) = true := by simpa using c1
    clear hbad
    go_enter Try.func8, Try.ntmps8
    go_wp2_with fail
    go_quiet (fail)
    go_wp2_with fail
    go_ret
    exact ⟨rfl, ((h'.out.alloc _).drop).drewN _⟩
  · by_cases c2 : N ≤ x
    · have e1 : decide (x < 0) = false := by simpa using c1
      have e2 : decide (N ≤ x) = true := by simpa using c2
      clear hbad
      go_enter Try.func8, Try.ntmps8
      go_wp2_with fail
      go_quiet (fail)
      go_wp2_with fail
      go_ret
      exact ⟨rfl, ((h'.out.alloc _).drop).drewN _⟩
    · by_cases c3 : y < 0
      · have e1 : decide (x < 0) = false := by simpa using c1
        have e2 : decide (N ≤ x) = false := by simpa using c2
        have e3 : decide (y < 0) = true := by simpa using c3
        clear hbad
        go_enter Try.func8, Try.ntmps8
        go_wp2_with fail
        go_quiet (fail)
        go_wp2_with fail
        go_ret
        exact ⟨rfl, ((h'.out.alloc _).drop).drewN _⟩
      · have c4 : N ≤ y := by omega
        have e1 : decide (x < 0) = false := by simpa using c1
        have e2 : decide (N ≤ x) = false := by simpa using c2
        have e3 : decide (y < 0) = false := by simpa using c3
        have e4 : decide (N ≤ y) = true := by simpa using c4
        clear hbad
        go_enter Try.func8, Try.ntmps8
        go_wp2_with fail
        go_quiet (fail)
        go_wp2_with fail
        go_ret
        exact ⟨rfl, ((h'.out.alloc _).drop).drewN _⟩

set_option maxRecDepth 100000 in
set_option maxHeartbeats 800000 in
theorem send_full (x y : Int) (A A' : Option Addr) (n c c' : Nat) (hH : H W w L) (hp : w.cell? ⟨b, 0, none⟩ = some (.int .i64 N)) (hq : w.cell? ⟨b, 1, none⟩ = some (.slice A' 4096 c'))
    (hx0 : 0 ≤ x) (hx1 : x < N) (hy0 : 0 ≤ y) (hy1 : y < N) :
    Calls Try.prog 8 #[.pointer (some ⟨b, 0, none⟩), .agg #[.int .i64 x, .int .i64 y, .slice A n c]] w (PErr 5 fun w' => H W w' L) := by
  have hb : b < w.heap.size := World.block_lt_of_cell? _ _ hp
  have h' := Lib.hid hH
  clear hH
  have e1 : decide (x < 0) = false := by simp; omega
  have e2 : decide (N ≤ x) = false := by simp; omega
  have e3 : decide (y < 0) = false := by simp; omega
  have e4 : decide (N ≤ y) = false := by simp; omega
  go_enter Try.func8, Try.ntmps8
  go_wp2_with fail
  go_quiet (fail)
  go_wp2_with fail
  go_ret
  exact ⟨rfl, ((h'.out.alloc _).drop).drewN _⟩
end Go.Proofs.Ytggphdbifjoflaa
