import Derived.Test.YtggphdbifjoflaaB
namespace Go.Proofs.Ytggphdbifjoflaa
open Go.RowKit
variable {W w : World} {L : List Seg} {v : Value} {l : List UInt8} {b : Nat} {N x y : Int} {ps : List Pcl}

def PInt (k : Int) (P : World → Prop) (e : Ending) (w' : World) : Prop := e = .returned (.int .i64 k) ∧ P w'

set_option maxHeartbeats 400000 in
theorem len_nil (w : World) : Calls Try.prog 13 #[.pointer none] w (PInt 0 fun w' => w = w') := by
  go_enter Try.func13, Try.ntmps13
  go_wp2
  go_ret
  exact ⟨rfl, rfl⟩

set_option maxHeartbeats 400000 in
theorem len_cells (A : Option Addr) (n c : Nat) (hq : w.cell? ⟨b, 1, none⟩ = some (.slice A n c)) : Calls Try.prog 13 #[.pointer (some ⟨b, 0, none⟩)] w (PInt n fun w' => w = w') := by
  go_enter Try.func13, Try.ntmps13
  go_wp2
  go_ret
  exact ⟨rfl, rfl⟩

def clampN (p : Int) : Int := if p < 0 then 0 else if 62 < p then 62 else p

def PNew (W : World) (L : List Seg) (N : Int) (e : Ending) (w' : World) : Prop := ∃ b, e = .returned (.pointer (some ⟨b, 0, none⟩)) ∧ Net W w' L b N []

theorem net_new (h : H W w L) (N : Int) : Net W (w.alloc (.cells #[.int .i64 N, .slice none 0 0] 57)) L w.heap.size N [] :=
  ⟨.slice none 0 0, [], [], (h.alloc _).addNil.addNil.pick 2 rfl, OwnS.nil _ _, by simp, rfl, by simp⟩

set_option maxHeartbeats 400000 in
theorem new_any (p : Int) (hH : H W w L) : Calls Try.prog 7 #[.int .i64 p] w (PNew W L (clampN p)) := by
  go_enter Try.func7, Try.ntmps7
  go_wp2
  all_goals (
    go_ret
    refine ⟨_, rfl, ?_⟩
    first
    | (rw [show clampN p = 0 by unfold clampN; rw [if_pos (by omega)]]; exact net_new hH _)
    | (rw [show clampN p = 62 by unfold clampN; rw [if_neg (by omega), if_pos (by omega)]]; exact net_new hH _)
    | (rw [show clampN p = p by unfold clampN; rw [if_neg (by omega), if_neg (by omega)]]; exact net_new hH _))
end Go.Proofs.Ytggphdbifjoflaa
