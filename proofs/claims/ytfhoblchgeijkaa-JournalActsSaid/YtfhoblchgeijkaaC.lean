import Derived.Test.YtfhoblchgeijkaaB
namespace Go.Proofs.Ytfhoblchgeijkaa
open Go.RowKit Go.Maps
variable {W w : World} {L : List Seg} {v : Value} {l n : Bs} {b M : Nat} {d : AD} {SM : Seg} {rs : List FR}

def AD.writes (d : AD) : Bool := !d.armed || !(d.left == 0)
def AD.wrote (d : AD) : AD := if d.armed then (if d.left = 0 then { d with off := true } else { d with left := d.left - 1 }) else d

def PBool (x : Bool) (P : World → Prop) (e : Ending) (w' : World) : Prop := e = .returned (.bool x) ∧ P w'
def PVoid (P : World → Prop) (e : Ending) (w' : World) : Prop := e = .returned (.tuple #[]) ∧ P w'
/-- An error number comes back, and what it says of the world. -/
def PErr (k : Int) (P : World → Prop) (e : Ending) (w' : World) : Prop := e = .returned (.int .i64 k) ∧ P w'

set_option maxHeartbeats 400000 in
theorem write_hdr (h : H W w (dhdr b M d :: L)) (hl : d.left < 9223372036854775808) : Calls Try.prog 43 #[.pointer (some ⟨b, 0, none⟩)] w (PBool d.writes fun w' => H W w' (dhdr b M d.wrote :: L)) := by
  obtain ⟨fs, off, armed, left⟩ := d
  have c2 : w.cell? ⟨b, 2, none⟩ = some (.bool armed) := h.cellAt 0 0 2 rfl rfl rfl
  have c3 : w.cell? ⟨b, 3, none⟩ = some (.int .i64 left) := h.cellAt 0 0 3 rfl rfl rfl
  have c1 : w.cell? ⟨b, 1, none⟩ = some (.bool off) := h.cellAt 0 0 1 rfl rfl rfl
  have f1 : w.frozen? ⟨b, 1, none⟩ = false := h.freeAt 0 0 1 rfl rfl
  have f3 : w.frozen? ⟨b, 3, none⟩ = false := h.freeAt 0 0 3 rfl rfl
  have h' := Lib.hid h
  simp only at hl
  clear h
  cases armed with
  | false =>
    go_enter Try.func43, Try.ntmps43
    go_wp2
    go_ret
    exact ⟨rfl, h'.out⟩
  | true =>
    by_cases h0 : left = 0
    · subst h0
      go_enter Try.func43, Try.ntmps43
      go_wp2
      go_ret
      exact ⟨rfl, h'.out.setCell 1 (.bool true)⟩
    · have e0 : ((left : Int) == 0) = false := by simpa using h0
      have e1 : wrap64 ((left : Int) - 1) = ((left - 1 : Nat) : Int) := by unfold wrap64; omega
      go_enter Try.func43, Try.ntmps43
      go_wp2
      go_ret
      refine ⟨by simp [AD.writes, h0], ?_⟩
      have := h'.out.setCell 3 (.int .i64 ((left - 1 : Nat) : Int))
      simp only [AD.wrote, h0, if_true, if_false]
      rw [show ((left - 1 : Nat) : Int) = (left : Int) - 1 by omega] at this
      exact this.perm (by simp [dhdr, show ((left - 1 : Nat) : Int) = (left : Int) - 1 by omega])

set_option maxHeartbeats 400000 in
theorem off_nil (w : World) : Calls Try.prog 18 #[.pointer none] w (PBool true fun w' => w = w') := by
  go_enter Try.func18, Try.ntmps18
  go_wp2
  go_ret
  exact ⟨rfl, rfl⟩

set_option maxHeartbeats 400000 in
theorem off_hdr (h : H W w (dhdr b M d :: L)) : Calls Try.prog 18 #[.pointer (some ⟨b, 0, none⟩)] w (PBool d.off fun w' => w = w') := by
  obtain ⟨fs, off, armed, left⟩ := d
  have c2 : w.cell? ⟨b, 1, none⟩ = some (.bool off) := h.cellAt 0 0 1 rfl rfl rfl
  clear h
  go_enter Try.func18, Try.ntmps18
  go_wp2
  go_ret
  exact ⟨rfl, rfl⟩

theorem off_disk (h : Disk W w L b d) : Calls Try.prog 18 #[.pointer (some ⟨b, 0, none⟩)] w (PBool d.off fun w' => w = w') := by
  obtain ⟨M, SM, rs, h1, h2⟩ := h
  exact off_hdr h1

def AD.arm (d : AD) (n : Int) : AD := { d with armed := true, left := n.toNat }

set_option maxHeartbeats 400000 in
theorem arm_disk (h : Disk W w L b d) (n : Int) (hn : n < 9223372036854775808) : Calls Try.prog 16 #[.pointer (some ⟨b, 0, none⟩), .int .i64 n] w (PVoid fun w' => Disk W w' L b (d.arm n)) := by
  obtain ⟨M, SM, rs, h, hk⟩ := h
  have f1 : w.frozen? ⟨b, 2, none⟩ = false := h.freeAt 0 0 2 rfl rfl
  have f3 : w.frozen? ⟨b, 3, none⟩ = false := h.freeAt 0 0 3 rfl rfl
  have c2 : w.cell? ⟨b, 2, none⟩ = some (.bool d.armed) := h.cellAt 0 0 2 rfl rfl rfl
  have c3 : w.cell? ⟨b, 3, none⟩ = some (.int .i64 d.left) := h.cellAt 0 0 3 rfl rfl rfl
  have hg := Lib.hid (show ∀ x : Int, (n.toNat : Int) = x → H W ((w.setCell ⟨b, 2, none⟩ (.bool true)).setCell ⟨b, 3, none⟩ (.int .i64 x)) (dhdr b M (d.arm n) :: SM :: frs rs :: L) from
    fun x hx => by subst hx; exact (h.setCell 2 (.bool true)).setCell 3 (.int .i64 n.toNat))
  have hk' := Lib.hid hk
  clear h hk
  go_enter Try.func16, Try.ntmps16
  go_wp2
  all_goals (
    go_end0
    exact ⟨rfl, M, SM, rs, hg.out _ (by omega), ⟨hk'.out.map, hk'.out.each, hk'.out.fs, by simp only [AD.arm]; omega, hk'.out.le⟩⟩)
end Go.Proofs.Ytfhoblchgeijkaa
