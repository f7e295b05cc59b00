import Derived.Test.YtggphdbifjoflaaH
namespace Go.Proofs.Ytggphdbifjoflaa
open Go.RowKit

theorem i5 : (Try.prog.info? 5).map (fun i => (i.zero, i.size, i.bytes)) = some (some (.int .u8 0), 1, 1) := by kernel_rfl
theorem i30 : (Try.prog.info? 30).map (fun i => (i.zero, i.size, i.bytes)) = some (some (.agg #[.int .i64 0, .int .i64 0, .slice none 0 0]), 3, 40) := by kernel_rfl
theorem et22 : ET Try.prog 22 5 1 1 := by
  obtain ⟨i, hi, h1, h2, h3⟩ := info_parts i5
  exact ⟨i, _, Try.underlying22, hi, h1, h2, h3, rfl, by decide⟩
theorem et47 : ET Try.prog 47 30 3 40 := by
  obtain ⟨i, hi, h1, h2, h3⟩ := info_parts i30
  exact ⟨i, _, Try.underlying47, hi, h1, h2, h3, rfl, by decide⟩
theorem sl22 (w : World) (a : Option Addr) (n c n' c' : Nat) : (binOp .eql 22 (.slice a n c) (.slice none n' c')).run Try.prog w = .ok (.bool a.isNone) w := Lib.run_eql_slice_nil w 22 5 a n c n' c' Try.underlying22

variable {W w : World} {L : List Seg} {v : Value} {l : List UInt8}

set_option maxHeartbeats 400000 in
theorem bclone_nil (n cap : Nat) (w : World) :
    Calls Try.prog 30 #[.slice none n cap] w fun e w' => e = .returned (.slice none 0 0) ∧ w = w' := by
  have k22 := sl22
  go_enter Try.func30, Try.ntmps30
  go_wp2
  go_ret
  exact ⟨rfl, rfl⟩

/-- A row of bytes comes back, new. -/
def PBytes (W : World) (L : List Seg) (n : Nat) (xs : List Value) (e : Ending) (w' : World) : Prop := ∃ A cap S, e = .returned (.slice A n cap) ∧ H W w' (S :: L) ∧ OwnS 5 1 (.slice A n cap) n xs S

set_option maxHeartbeats 400000 in
theorem bclone_some (a : Addr) (n cap : Nat) (xs : List Value) (w : World) (h : H W w L) (hb : n ≤ 140737488355328) (hr : RS L 1 (.slice (some a) n cap) n xs) (h1 : ∀ u ∈ xs, u.oneCell' = true) :
    Calls Try.prog 30 #[.slice (some a) n cap] w (PBytes W L n xs) := by
  have k22 := sl22
  go_enter Try.func30, Try.ntmps30
  go_wp2_with (at_builtin; refine wpl_append rfl (.tmp 5) (.tmp 6) rfl et22 rfl rfl (h.alloc _) (h.lit #[] 0 (by simp [maxLen]) rfl) (hr.cons _) h1 (by omega) (by omega) ?_; intro A' cap' w' S' h2 h3)
  go_ret
  simp only [Nat.zero_add, List.nil_append] at h3
  exact ⟨A', cap', S', by simp, h2, h3⟩

/-- bytes.Clone -/
theorem bclone {w : World} (h : H W w L) (hr : RL L v l) :
    Calls Try.prog 30 #[v] w (PBytes W L l.length (u8s l)) := by
  obtain ⟨A, cap, rfl⟩ := hr.2.form
  cases A with
  | some a => exact bclone_some a l.length cap (u8s l) w h hr.1 hr.2 (u8s_one l)
  | none =>
    have h0 : l.length = 0 := by
      rcases hr.2.2 with ⟨h0, _⟩ | ⟨b, o, c, _, _, _, hx, _⟩
      · exact h0
      · simp at hx
    have hl : l = [] := List.eq_nil_of_length_eq_zero h0
    subst hl
    exact (bclone_nil _ cap w).mono fun e w' ⟨h1, h2⟩ => ⟨none, 0, [], h1, h2 ▸ h.addNil, OwnS.nil _ _⟩

/-- network.clone -/
def PClone (W : World) (L : List Seg) (x y : Int) (l : List UInt8) (e : Ending) (w' : World) : Prop :=
  ∃ A cap S, e = .returned (.agg #[.int .i64 x, .int .i64 y, .slice A l.length cap]) ∧ H W w' (S :: L) ∧ OB (.slice A l.length cap) l S
set_option maxHeartbeats 400000 in
theorem clone_any (x y : Int) {w : World} (h : H W w L) (hr : RL L v l) :
    Calls Try.prog 24 #[.agg #[.int .i64 x, .int .i64 y, v]] w (PClone W L x y l) := by
  obtain ⟨A0, cap0, rfl⟩ := hr.2.form
  have h0 := ((h.alloc (Obj.cells #[.int .i64 x, .int .i64 y, .slice A0 l.length cap0] 30)).alloc (Obj.cells #[.int .i64 0, .int .i64 0, .slice none 0 0] 30)).drew
  simp only [World.size_alloc] at h0
  have hq := Lib.hid (show (_ ∧ _ ∧ _) from ⟨h0.cellAt 1 0 0 rfl rfl rfl, h0.cellAt 1 0 1 rfl rfl rfl, h0.cellAt 1 0 2 rfl rfl rfl⟩)
  go_enter Try.func24, Try.ntmps24
  go_wp2_with fail
  go_region_held3 (fun w' => w'.cell? ⟨w.heap.size, 0, none⟩ = some (.int .i64 x) ∧ w'.cell? ⟨w.heap.size, 1, none⟩ = some (.int .i64 y) ∧ w'.cell? ⟨w.heap.size, 2, none⟩ = some (.slice A0 l.length cap0)) (first | go_keep | exact ⟨h1.cellAt 2 0 0 rfl rfl rfl, h1.cellAt 2 0 1 rfl rfl rfl, h1.cellAt 2 0 2 rfl rfl rfl⟩)
    ((go_at_call 30; refine (bclone h0 ((hr.cons _).cons _)).mono ?_; rintro e w1 ⟨A, cap, S, rfl, h1, h2⟩
      have c0 := h1.cellAt 1 0 0 rfl rfl rfl
      have c1 := h1.cellAt 1 0 1 rfl rfl rfl
      have c2 := h1.cellAt 1 0 2 rfl rfl rfl
      have f0 := fun k => h1.freeAt 1 0 k rfl rfl))
  go_wp2
  have hf := ((h1.swap.setCell 0 (.int .i64 x)).setCell 1 (.int .i64 y)).setCell 2 (.slice A l.length cap)
  have d0 := hf.cellAt 0 0 0 rfl rfl rfl
  have d1 := hf.cellAt 0 0 1 rfl rfl rfl
  have d2 := hf.cellAt 0 0 2 rfl rfl rfl
  refine bodyPost_ret (v := .agg #[.int .i64 x, .int .i64 y, .slice A l.length cap]) ?_ rfl ⟨A, cap, S, rfl, hf.drop.swap.drop, h2⟩
  simp [results, Try.results24, go_sem, d0, d1, d2]
end Go.Proofs.Ytggphdbifjoflaa
