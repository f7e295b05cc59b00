import Derived.Test.YtfhoblchgeijkaaE
namespace Go.Proofs.Ytfhoblchgeijkaa
open Go.RowKit Go.Maps

theorem i5 : (Try.prog.info? 5).map (fun i => (i.zero, i.size, i.bytes)) = some (some (.int .u8 0), 1, 1) := by kernel_rfl
theorem et27 : ET Try.prog 27 5 1 1 := by
  obtain ⟨i, hi, h1, h2, h3⟩ := info_parts i5
  exact ⟨i, _, Try.underlying27, hi, h1, h2, h3, rfl, by decide⟩
theorem sl27 (w : World) (a : Option Addr) (n c n' c' : Nat) : (binOp .eql 27 (.slice a n c) (.slice none n' c')).run Try.prog w = .ok (.bool a.isNone) w := Lib.run_eql_slice_nil w 27 5 a n c n' c' Try.underlying27

theorem run_str_eql (a b : Bs) (w : World) : (binOp .eql 9 (.string (bstr a)) (.string (bstr b))).run Try.prog w = .ok (.bool (a == b)) w := by
  show (Op.stringOp .eql (bstr a) (bstr b)).run Try.prog w = _
  simp [Op.stringOp, bstr_toList]
theorem run_str_neq (a b : Bs) (w : World) : (binOp .neq 9 (.string (bstr a)) (.string (bstr b))).run Try.prog w = .ok (.bool (!(a == b))) w := by
  show (Op.stringOp .neq (bstr a) (bstr b)).run Try.prog w = _
  simp [Op.stringOp, bstr_toList]

variable {W w : World} {L : List Seg} {v : Value} {l : Bs}

set_option maxHeartbeats 400000 in
theorem bclone_nil (n cap : Nat) (w : World) :
    Calls Try.prog 46 #[.slice none n cap] w fun e w' => e = .returned (.slice none 0 0) ∧ w = w' := by
  have k27 := sl27
  go_enter Try.func46, Try.ntmps46
  go_wp2
  go_ret
  exact ⟨rfl, rfl⟩

/-- A row of bytes comes back, new. -/
def PBytes (W : World) (L : List Seg) (n : Nat) (xs : List Value) (e : Ending) (w' : World) : Prop := ∃ A cap S, e = .returned (.slice A n cap) ∧ H W w' (S :: L) ∧ OwnS 5 1 (.slice A n cap) n xs S

set_option maxHeartbeats 400000 in
theorem bclone_some (a : Addr) (n cap : Nat) (xs : List Value) (w : World) (h : H W w L) (hb : n ≤ 140737488355328) (hr : RS L 1 (.slice (some a) n cap) n xs) (h1 : ∀ u ∈ xs, u.oneCell' = true) :
    Calls Try.prog 46 #[.slice (some a) n cap] w (PBytes W L n xs) := by
  have k27 := sl27
  go_enter Try.func46, Try.ntmps46
  go_wp2_with (at_builtin; refine wpl_append rfl (.tmp 5) (.tmp 6) rfl et27 rfl rfl (h.alloc _) (h.lit #[] 0 (by simp [maxLen]) rfl) (hr.cons _) h1 (by omega) (by omega) ?_; intro A' cap' w' S' h2 h3)
  go_ret
  simp only [Nat.zero_add, List.nil_append] at h3
  exact ⟨A', cap', S', by simp, h2, h3⟩

/-- bytes.Clone -/
theorem bclone {w : World} (h : H W w L) (hr : RL L v l) :
    Calls Try.prog 46 #[v] w (PBytes W L l.length (u8s l)) := by
  obtain ⟨A, cap, rfl⟩ := hr.2.form
  cases A with
  | some a => exact bclone_some a l.length cap (u8s l) w h hr.1 hr.2 (u8s_one l)
  | none =>
    have h0 : l.length = 0 := by
      rcases hr.2.2 with ⟨h0, _⟩ | ⟨b, o, c, _, _, _, hx, _⟩
      · exact h0
      · simp at hx
    have hl : l = [] := List.eq_nil_of_length_eq_zero h0
    subst hl
    exact (bclone_nil _ cap w).mono fun e w' ⟨h1, h2⟩ => ⟨none, 0, [], h1, h2 ▸ h.addNil, OwnS.nil _ _⟩
end Go.Proofs.Ytfhoblchgeijkaa
