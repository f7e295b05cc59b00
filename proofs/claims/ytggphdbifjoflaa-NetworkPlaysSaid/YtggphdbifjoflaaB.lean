import Derived.Test.YtggphdbifjoflaaA
namespace Go.Proofs.Ytggphdbifjoflaa
open Go.RowKit

/-- A parcel, as data. -/
structure Pcl where
  f : Int
  t : Int
  d : List UInt8
/-- A parcel as it lies in the program's network. -/
structure PR where
  p : Pcl
  v : Value
  S : Seg
def PR.cells (r : PR) : List Value := [.int .i64 r.p.f, .int .i64 r.p.t, r.v]
def PR.ok (r : PR) : Prop := OB r.v r.p.d r.S ∧ r.p.d.length ≤ 140737488355328

/-- What the list rs of parcels says of the network's list of parcels. -/
structure NetOk (ps : List Pcl) (pv : Value) (SP : Seg) (rs : List PR) : Prop where
  row : OwnS 30 3 pv rs.length (rs.flatMap PR.cells) SP
  each : ∀ r ∈ rs, r.ok
  map : rs.map PR.p = ps
  le : rs.length ≤ 4096

def hdr (b : Nat) (N : Int) (pv : Value) : Seg := [(b, .cells #[.int .i64 N, pv] 57 (0, 0))]
def datas (rs : List PR) : Seg := rs.flatMap PR.S
/-- The network at block b, in w. -/
def Net (W w : World) (L : List Seg) (b : Nat) (N : Int) (ps : List Pcl) : Prop :=
  ∃ pv SP rs, H W w (hdr b N pv :: SP :: datas rs :: L) ∧ NetOk ps pv SP rs

variable {W w : World} {L : List Seg} {v : Value} {l : List UInt8} {b : Nat} {N x y : Int} {ps : List Pcl}

/-- An error number comes back, and what it says of the world. -/
def PErr (k : Int) (P : World → Prop) (e : Ending) (w' : World) : Prop := e = .returned (.int .i64 k) ∧ P w'

theorem send_fin {wf : World} {A : Option Addr} {cap A1 cap1 A' cap'} {SP SP' S X Y : Seg} {rs : List PR}
    (hf : H W wf ([(b, Obj.cells (#[.int .i64 N, .slice A1 rs.length cap1].setIfInBounds 1 (.slice A' (rs.length + 1) cap')) 57 (0, 0))] :: (SP' :: X :: S :: Y :: hdr b N (.slice A1 rs.length cap1) :: datas rs :: L).eraseIdx 4))
    (hn : NetOk ps (.slice A1 rs.length cap1) SP rs) (h5 : OwnS 30 3 (.slice A' (rs.length + 1) cap') (rs.length + 1) (rs.flatMap PR.cells ++ [.int .i64 x, .int .i64 y, .slice A l.length cap]) SP')
    (h2 : OB (.slice A l.length cap) l S) (hl : l.length ≤ 140737488355328) (hrl : rs.length < 4096) : Net W wf L b N (ps ++ [⟨x, y, l⟩]) := by
  refine ⟨.slice A' (rs.length + 1) cap', SP', rs ++ [⟨⟨x, y, l⟩, .slice A l.length cap, S⟩], ?_, ?_⟩
  · have g : H W wf (hdr b N (.slice A' (rs.length + 1) cap') :: SP' :: X :: S :: Y :: datas rs :: L) := hf
    have g2 : H W wf (S :: hdr b N (.slice A' (rs.length + 1) cap') :: SP' :: datas rs :: L) := (((g.pick 2 rfl).drop).pick 3 rfl).drop.pick 2 rfl
    have g3 : H W wf ((datas rs ++ S) :: hdr b N (.slice A' (rs.length + 1) cap') :: SP' :: L) := (g2.pick 3 rfl).join
    have e : datas (rs ++ [⟨⟨x, y, l⟩, .slice A l.length cap, S⟩]) = datas rs ++ S := by simp [datas]
    rw [e]
    exact (g3.pick 2 rfl).pick 2 rfl
  · refine ⟨?_, ?_, by simp [hn.map], by simp; omega⟩
    · have := h5
      simpa [PR.cells] using this
    · intro r hr
      simp only [List.mem_append, List.mem_singleton] at hr
      rcases hr with hr | rfl
      · exact hn.each r hr
      · exact ⟨h2, hl⟩

set_option maxRecDepth 100000 in
set_option maxHeartbeats 800000 in
theorem send_ok (h : Net W w L b N ps) (hr : RL L v l) (hx0 : 0 ≤ x) (hx1 : x < N) (hy0 : 0 ≤ y) (hy1 : y < N) (hl : ps.length < 4096) :
    Calls Try.prog 8 #[.pointer (some ⟨b, 0, none⟩), .agg #[.int .i64 x, .int .i64 y, v]] w (PErr 0 fun w' => Net W w' L b N (ps ++ [⟨x, y, l⟩])) := by
  obtain ⟨pv, SP, rs, h, hn⟩ := h
  obtain ⟨A0, cap0, rfl⟩ := hr.2.form
  obtain ⟨A1, cap1, rfl⟩ := hn.row.form
  have hrl : rs.length < 4096 := by have := congrArg List.length hn.map; simp at this; omega
  have h0 := (h.alloc (Obj.cells #[.int .i64 x, .int .i64 y, .slice A0 l.length cap0] 30))
  have hp : w.cell? ⟨b, 0, none⟩ = some (.int .i64 N) := h.cellAt 0 0 0 rfl rfl rfl
  have hq : w.cell? ⟨b, 1, none⟩ = some (.slice A1 rs.length cap1) := h.cellAt 0 0 1 rfl rfl rfl
  have h0' := Lib.hid h0
  have h' := Lib.hid h
  have hn' := Lib.hid hn
  clear h h0 hn
  have hb := h'.out.ltAt 0 0 rfl rfl
  have e1 : decide (x < 0) = false := by simp; omega
  have e2 : decide (N ≤ x) = false := by simp; omega
  have e3 : decide (y < 0) = false := by simp; omega
  have e4 : decide (N ≤ y) = false := by simp; omega
  go_enter Try.func8, Try.ntmps8
  go_wp2_with fail
  go_quiet (fail)
  go_wp2_with fail
  have b1 : (rs.length + 1) * 40 ≤ 140737488355328 := by omega
  have b2 : rs.length + 1 ≤ 140737488355328 := by omega
  go_region_law (first
    | (go_simp; go_at_call 24; refine (clone_any x y (h0'.out.drewN _) ((((hr.cons _).cons _).cons _).cons _)).mono ?_; rintro e w1 ⟨A, cap, S, rfl, h1, h2'⟩
       have g0 : w1.cell? ⟨b, 1, none⟩ = some (.slice A1 rs.length cap1) := h1.cellAt 2 0 1 rfl rfl rfl
       have h2 := Lib.hid ((h1.alloc (Obj.cells #[.int .i64 x, .int .i64 y, .slice A l.length cap] 30)).pick 4 rfl)
       have hb1 : b < w1.heap.size := h1.ltAt 2 0 rfl rfl
       have h3 := Lib.hid (((h1.lit (E := 30) (size := 3) #[.int .i64 x, .int .i64 y, .slice A l.length cap] 1 (of_decide_eq_true rfl) rfl).rs (S :: [(w.heap.size, Obj.cells #[.int .i64 x, .int .i64 y, .slice A0 l.length cap0] 30)] :: hdr b N (.slice A1 rs.length cap1) :: datas rs :: L)).cons SP)
       have h4 : ∀ u ∈ [Value.int .i64 x, .int .i64 y, .slice A l.length cap], u.oneCell' = true := by intro u hu; simp at hu; rcases hu with rfl | rfl | rfl <;> rfl)
    | (refine step_append rfl (.tmp 47) (.tmp 50) rfl et47 (by simp [Act.eval]) (by simp [Act.eval]) h2.out hn'.out.row h3.out h4 b1 b2 ?_; intro A' cap' w2 SP' h4 h5
       have g1 : w2.cell? ⟨b, 1, none⟩ = some (.slice A1 rs.length cap1) := h4.cellAt 4 0 1 rfl rfl rfl
       have g2 : w2.frozen? ⟨b, 1, none⟩ = false := h4.freeAt 4 0 1 rfl rfl))
  all_goals (
    go_wp2
    have hf := (h4.pick 4 rfl).setCell 1 (.slice A' (rs.length + 1) cap')
    go_ret
    exact ⟨rfl, send_fin hf hn'.out h5 h2' hr.1 hrl⟩)
end Go.Proofs.Ytggphdbifjoflaa
