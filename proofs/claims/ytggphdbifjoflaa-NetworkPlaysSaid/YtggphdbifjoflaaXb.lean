import Derived.Test.YtggphdbifjoflaaXa
import Derived.Test.YtggphdbifjoflaaFin
namespace Go.Proofs.Ytggphdbifjoflaa
open Go.RowKit
variable {W w : World} {L : List Seg} {v : Value} {l : List UInt8} {b : Nat} {N x y : Int} {ps : List Pcl}

theorem rsend_fin {wf : World} {A : Option Addr} {cap A1 cap1 A' cap'} {SP SP' S X Y : Seg} {rs : List PR}
    (hf : H W wf ([(b, Obj.cells (#[.int .i64 N, .slice A1 rs.length cap1].setIfInBounds 1 (.slice A' (rs.length + 1) cap')) 53 (0, 0))] :: SP' :: X :: S :: Y :: datas rs :: L))
    (hn : RNetOk ps (.slice A1 rs.length cap1) SP rs) (h5 : OwnS 43 3 (.slice A' (rs.length + 1) cap') (rs.length + 1) (rs.flatMap PR.cells ++ [.int .i64 x, .int .i64 y, .slice A l.length cap]) SP')
    (h2 : OB (.slice A l.length cap) l S) (hl : l.length ≤ 140737488355328) (hrl : rs.length < 4096) : RNet W wf L b N (ps ++ [⟨x, y, l⟩]) := by
  refine ⟨.slice A' (rs.length + 1) cap', SP', rs ++ [⟨⟨x, y, l⟩, .slice A l.length cap, S⟩], ?_, ?_⟩
  · have g : H W wf (rhdr b N (.slice A' (rs.length + 1) cap') :: SP' :: X :: S :: Y :: datas rs :: L) := hf
    have g2 : H W wf (S :: rhdr b N (.slice A' (rs.length + 1) cap') :: SP' :: datas rs :: L) := (((g.pick 2 rfl).drop).pick 3 rfl).drop.pick 2 rfl
    have g3 : H W wf ((datas rs ++ S) :: rhdr b N (.slice A' (rs.length + 1) cap') :: SP' :: L) := (g2.pick 3 rfl).join
    have e : datas (rs ++ [⟨⟨x, y, l⟩, .slice A l.length cap, S⟩]) = datas rs ++ S := by simp [datas]
    rw [e]
    exact (g3.pick 2 rfl).pick 2 rfl
  · refine ⟨?_, ?_, by simp [hn.map], by simp; omega⟩
    · have := h5
      simpa [PR.cells] using this
    · intro r hr
      simp only [List.mem_append, List.mem_singleton] at hr
      rcases hr with hr | rfl
      · exact hn.each r hr
      · exact ⟨h2, hl⟩

set_option maxRecDepth 100000 in
set_option maxHeartbeats 1600000 in
theorem rsend_in {pv : Value} {SP : Seg} {rs : List PR} (h : H W w (rhdr b N pv :: SP :: datas rs :: L)) (hn : RNetOk ps pv SP rs) (hr : RL (datas rs :: L) v l) (hx0 : 0 ≤ x) (hx1 : x < N) (hy0 : 0 ≤ y) (hy1 : y < N) (hl : ps.length < 4096) :
    Calls Try.prog 15 #[.pointer (some ⟨b, 0, none⟩), .agg #[.int .i64 x, .int .i64 y, v]] w (PErr 0 fun w' => RNet W w' L b N (ps ++ [⟨x, y, l⟩])) := by
  obtain ⟨A0, cap0, rfl⟩ := hr.2.form
  obtain ⟨A1, cap1, rfl⟩ := hn.row.form
  have hrl : rs.length < 4096 := by have := congrArg List.length hn.map; simp at this; omega
  have h0 := (h.alloc (Obj.cells #[.int .i64 x, .int .i64 y, .slice A0 l.length cap0] 43))
  have hp : w.cell? ⟨b, 0, none⟩ = some (.int .i64 N) := h.cellAt 0 0 0 rfl rfl rfl
  have hq : w.cell? ⟨b, 1, none⟩ = some (.slice A1 rs.length cap1) := h.cellAt 0 0 1 rfl rfl rfl
  have h0' := Lib.hid h0
  have h' := Lib.hid h
  have hn' := Lib.hid hn
  have hlb := hr.1
  clear h h0 hn
  have hb := h'.out.ltAt 0 0 rfl rfl
  have e1 : decide (x < 0) = false := by simp; omega
  have e2 : decide (N ≤ x) = false := by simp; omega
  have e3 : decide (y < 0) = false := by simp; omega
  have e4 : decide (N ≤ y) = false := by simp; omega
  have b1 : (rs.length + 1) * 40 ≤ 140737488355328 := by omega
  have b2 : rs.length + 1 ≤ 140737488355328 := by omega
  have b3 : (0 + l.length) * 1 ≤ 140737488355328 := by omega
  have b4 : 0 + l.length ≤ 140737488355328 := by omega
  go_enter Try.func15, Try.ntmps15
  go_wp2_with fail
  go_quiet (fail)
  go_wp2_with fail
  have hr1 := Lib.hid ((((hr.2.cons SP).cons (rhdr b N (.slice A1 rs.length cap1))).cons [(w.heap.size, Obj.cells #[.int .i64 x, .int .i64 y, .slice A0 l.length cap0] 43)]).cons [])
  have hN := Lib.hid (OwnS.nil 5 1)
  have hone := u8s_one l
  have m1 := Lib.hid (show ∀ (w1 : World) (A : Option Addr) (cap : Nat) (S : Seg), H W w1 (S :: [(w.heap.size, Obj.cells #[.int .i64 x, .int .i64 y, .slice A0 l.length cap0] 43)] :: rhdr b N (.slice A1 rs.length cap1) :: SP :: datas rs :: L) →
      RS (SP :: [(w1.heap.size, Obj.cells #[.int .i64 x, .int .i64 y, .slice A l.length cap] 43)] :: S :: [(w.heap.size, Obj.cells #[.int .i64 x, .int .i64 y, .slice A0 l.length cap0] 43)] :: rhdr b N (.slice A1 rs.length cap1) :: datas rs :: L) 3 (.slice (some ⟨w1.heap.size, 0, none⟩) 1 1) 1 [.int .i64 x, .int .i64 y, .slice A l.length cap] from
    fun w1 A cap S h1 => ((h1.lit (E := 43) (size := 3) #[.int .i64 x, .int .i64 y, .slice A l.length cap] 1 (of_decide_eq_true rfl) rfl).rs _).cons SP)
  have m2 : ∀ (A : Option Addr) (cap : Nat), ∀ u ∈ [Value.int .i64 x, .int .i64 y, .slice A l.length cap], u.oneCell' = true := by intro A cap u hu; simp at hu; rcases hu with rfl | rfl | rfl <;> rfl
  have m2' := Lib.hid m2
  clear m2
--REGION 5
  refine wpF_start (S := (fun w' => w'.cell? ⟨w.heap.size, 0, none⟩ = some (.int .i64 x) ∧ w'.cell? ⟨w.heap.size, 1, none⟩ = some (.int .i64 y) ∧ w'.cell? ⟨w.heap.size, 2, none⟩ = some (.slice A0 l.length cap0) ∧ w'.cell? ⟨b, 1, none⟩ = some (.slice A1 rs.length cap1))) (fins := [17]) (by kernel_rfl) ?_ (fun hHeld => ?_)
  · exact ⟨(h0'.out.drewN nq).drew.cellAt 0 0 0 rfl rfl rfl, (h0'.out.drewN nq).drew.cellAt 0 0 1 rfl rfl rfl, (h0'.out.drewN nq).drew.cellAt 0 0 2 rfl rfl rfl, (h0'.out.drewN nq).drew.cellAt 1 0 1 rfl rfl rfl⟩
  refine wpF_take 0 (v := ?_) hHeld (by simp only [List.getElem?_toArray, List.getElem?_cons_zero]; exact rfl) (by kernel_rfl) (by exact fun _ _ _ h => h) (by rfl) ?_ ?_
  rotate_left
  · (intro w hSw; (try dsimp only at hSw); go_simp; try with_reducible rfl)
  try simp only [Act.put, List.setIfInBounds_toArray, List.set_cons_zero, List.set_cons_succ]
  refine wpF_take 1 (v := ?_) hHeld (by simp only [List.getElem?_toArray, List.getElem?_cons_succ, List.getElem?_cons_zero]; exact rfl) (by kernel_rfl) (by exact fun _ _ _ h => h) (by rfl) ?_ ?_
  rotate_left
  · (intro w hSw; (try dsimp only at hSw); go_simp; try with_reducible rfl)
  try simp only [Act.put, List.setIfInBounds_toArray, List.set_cons_zero, List.set_cons_succ]
  refine wpF_take 2 (v := ?_) hHeld (by simp only [List.getElem?_toArray, List.getElem?_cons_succ, List.getElem?_cons_zero]; exact rfl) (by kernel_rfl) (by exact fun _ _ _ h => h) (by rfl) ?_ ?_
  rotate_left
  · (intro w hSw; (try dsimp only at hSw); go_simp; try with_reducible rfl)
  try simp only [Act.put, List.setIfInBounds_toArray, List.set_cons_zero, List.set_cons_succ]
  refine wpF_take 3 (v := ?_) hHeld (by simp only [List.getElem?_toArray, List.getElem?_cons_succ, List.getElem?_cons_zero]; exact rfl) (by kernel_rfl) (by exact fun _ _ _ h => h) (by rfl) ?_ ?_
  rotate_left
  · (intro w hSw; (try dsimp only at hSw); go_simp; try with_reducible rfl)
  try simp only [Act.put, List.setIfInBounds_toArray, List.set_cons_zero, List.set_cons_succ]
  refine wpF_take 4 (v := ?_) hHeld (by simp only [List.getElem?_toArray, List.getElem?_cons_succ, List.getElem?_cons_zero]; exact rfl) (by kernel_rfl) (by exact fun _ _ _ h => h) (by rfl) ?_ ?_
  rotate_left
  · (intro w hSw; (try dsimp only at hSw); go_simp; try with_reducible rfl)
  try simp only [Act.put, List.setIfInBounds_toArray, List.set_cons_zero, List.set_cons_succ]
  refine wpF_take 5 (v := ?_) hHeld (by simp only [List.getElem?_toArray, List.getElem?_cons_succ, List.getElem?_cons_zero]; exact rfl) (by kernel_rfl) (by exact fun _ _ _ h => h) (by rfl) ?_ ?_
  rotate_left
  · (intro w hSw; (try dsimp only at hSw); go_simp; try with_reducible rfl)
  try simp only [Act.put, List.setIfInBounds_toArray, List.set_cons_zero, List.set_cons_succ]
  refine wpF_take 6 (v := ?_) hHeld (by simp only [List.getElem?_toArray, List.getElem?_cons_succ, List.getElem?_cons_zero]; exact rfl) (by kernel_rfl) (by exact fun _ _ _ h => h) (by rfl) ?_ ?_
  rotate_left
  · (intro w hSw; (try dsimp only at hSw); go_simp; try with_reducible rfl)
  try simp only [Act.put, List.setIfInBounds_toArray, List.set_cons_zero, List.set_cons_succ]
  refine wpF_take 7 (v := ?_) hHeld (by simp only [List.getElem?_toArray, List.getElem?_cons_succ, List.getElem?_cons_zero]; exact rfl) (by kernel_rfl) (by exact fun _ _ _ h => h) (by rfl) ?_ ?_
  rotate_left
  · (intro w hSw; (try dsimp only at hSw); go_simp; try with_reducible rfl)
  try simp only [Act.put, List.setIfInBounds_toArray, List.set_cons_zero, List.set_cons_succ]
  refine wpF_take 8 (v := ?_) hHeld (by simp only [List.getElem?_toArray, List.getElem?_cons_succ, List.getElem?_cons_zero]; exact rfl) (by kernel_rfl) (by exact fun _ _ _ h => h) (by rfl) ?_ ?_
  rotate_left
  · (intro w hSw; (try dsimp only at hSw); go_simp; try with_reducible rfl)
  try simp only [Act.put, List.setIfInBounds_toArray, List.set_cons_zero, List.set_cons_succ]
  refine wpF_take 9 (v := ?_) hHeld (by simp only [List.getElem?_toArray, List.getElem?_cons_succ, List.getElem?_cons_zero]; exact rfl) (by kernel_rfl) (by exact fun _ _ _ h => h) (by rfl) ?_ ?_
  rotate_left
  · (intro w hSw; (try dsimp only at hSw); go_simp; try with_reducible rfl)
  try simp only [Act.put, List.setIfInBounds_toArray, List.set_cons_zero, List.set_cons_succ]
  refine wpF_take 10 (v := ?_) hHeld (by simp only [List.getElem?_toArray, List.getElem?_cons_succ, List.getElem?_cons_zero]; exact rfl) (by kernel_rfl) (by exact fun _ _ _ h => h) (by rfl) ?_ ?_
  rotate_left
  · (intro w hSw; (try dsimp only at hSw); go_simp; try with_reducible rfl)
  try simp only [Act.put, List.setIfInBounds_toArray, List.set_cons_zero, List.set_cons_succ]
  refine wpF_one 11 (by simp only [List.getElem?_toArray, List.getElem?_cons_succ, List.getElem?_cons_zero]; exact rfl) (by kernel_rfl) (fun K hK => ?_)
  refine step_append rfl (.const (.slice none 0 0)) (.tmp 47) rfl et22 rfl (by simp [Act.eval]) (h0'.out.drewN nq).drew.addNil hN.out hr1.out hone b3 b4 ?_
  intro A cap w1 S h1 h2
  simp only [Nat.zero_add, List.nil_append] at h2 ⊢
  refine hK _ _ ?_ (fun hHeld => ?_)
  · exact ⟨h1.cellAt 1 0 0 rfl rfl rfl, h1.cellAt 1 0 1 rfl rfl rfl, h1.cellAt 1 0 2 rfl rfl rfl, h1.cellAt 2 0 1 rfl rfl rfl⟩
  clear hK K
  try simp only [Act.put, List.setIfInBounds_toArray, List.set_cons_zero, List.set_cons_succ]
  refine wpF_take 12 (v := ?_) hHeld (by simp only [List.getElem?_toArray, List.getElem?_cons_succ, List.getElem?_cons_zero]; exact rfl) (by kernel_rfl) (by exact fun _ _ _ h => h) (by rfl) ?_ ?_
  rotate_left
  · (intro w hSw; (try dsimp only at hSw); go_simp; try with_reducible rfl)
  try simp only [Act.put, List.setIfInBounds_toArray, List.set_cons_zero, List.set_cons_succ]
  refine wpF_one 13 (by simp only [List.getElem?_toArray, List.getElem?_cons_succ, List.getElem?_cons_zero]; exact rfl) (by kernel_rfl) (fun K hK => ?_)
  go_simp
  refine hK _ _ ?_ (fun hHeld => ?_)
  · exact ⟨(h1.alloc _).cellAt 2 0 0 rfl rfl rfl, (h1.alloc _).cellAt 2 0 1 rfl rfl rfl, (h1.alloc _).cellAt 2 0 2 rfl rfl rfl, (h1.alloc _).cellAt 3 0 1 rfl rfl rfl⟩
  clear hK K
  try simp only [Act.put, List.setIfInBounds_toArray, List.set_cons_zero, List.set_cons_succ]
  refine wpF_one 14 (by simp only [List.getElem?_toArray, List.getElem?_cons_succ, List.getElem?_cons_zero]; exact rfl) (by kernel_rfl) (fun K hK => ?_)
  refine step_append rfl (.tmp 41) (.tmp 50) rfl et49 (by simp [Act.eval]) (by simp [Act.eval]) ((h1.alloc (Obj.cells #[.int .i64 x, .int .i64 y, .slice A l.length cap] 43)).pick 4 rfl) hn'.out.row (m1.out w1 A cap S h1) (m2'.out A cap) b1 b2 ?_
  intro A' cap' w2 SP' h4 h5
  have hb2 := h4.ltAt 4 0 rfl rfl
  refine hK _ _ ?_ (fun hHeld => ?_)
  · exact ⟨h4.cellAt 3 0 0 rfl rfl rfl, h4.cellAt 3 0 1 rfl rfl rfl, h4.cellAt 3 0 2 rfl rfl rfl, h4.cellAt 4 0 1 rfl rfl rfl⟩
  clear hK K
  try simp only [Act.put, List.setIfInBounds_toArray, List.set_cons_zero, List.set_cons_succ]
  refine wpF_one 15 (by simp only [List.getElem?_toArray, List.getElem?_cons_succ, List.getElem?_cons_zero]; exact rfl) (by kernel_rfl) (fun K hK => ?_)
  go_simp
  refine hK _ _ ?_ (fun hHeld => ?_)
  · exact hHeld
  clear hK K
  try simp only [Act.put, List.setIfInBounds_toArray, List.set_cons_zero, List.set_cons_succ]
  refine wpF_take 16 (v := ?_) hHeld (by simp only [List.getElem?_toArray, List.getElem?_cons_succ, List.getElem?_cons_zero]; exact rfl) (by kernel_rfl) (by exact fun _ _ _ h => h) (by rfl) ?_ ?_
  rotate_left
  · (intro w hSw; (try dsimp only at hSw); go_simp; try with_reducible rfl)
  try simp only [Act.put, List.setIfInBounds_toArray, List.set_cons_zero, List.set_cons_succ]
  refine wpF_last 17 (by simp only [List.getElem?_toArray, List.getElem?_cons_succ, List.getElem?_cons_zero]; exact rfl) (by kernel_rfl) (by decide) (fun K hK => ?_)
  have g1 : w2.cell? ⟨b, 1, none⟩ = some (.slice A1 rs.length cap1) := h4.cellAt 4 0 1 rfl rfl rfl
  have g2 : w2.frozen? ⟨b, 1, none⟩ = false := h4.freeAt 4 0 1 rfl rfl
  go_simp
  refine hK _ _ ?_
  clear hK K
  try simp only [Act.put, List.setIfInBounds_toArray, List.set_cons_zero, List.set_cons_succ]
  refine wpF_done (by kernel_rfl) ?_
--END 5
  go_wp2
  have hf := (h4.pick 4 rfl).setCell 1 (.slice A' (rs.length + 1) cap')
  go_ret
  exact ⟨rfl, rsend_fin hf hn'.out h5 h2 hlb hrl⟩

theorem rsend_ok (h : RNet W w L b N ps) (hr : RL L v l) (hx0 : 0 ≤ x) (hx1 : x < N) (hy0 : 0 ≤ y) (hy1 : y < N) (hl : ps.length < 4096) :
    Calls Try.prog 15 #[.pointer (some ⟨b, 0, none⟩), .agg #[.int .i64 x, .int .i64 y, v]] w (PErr 0 fun w' => RNet W w' L b N (ps ++ [⟨x, y, l⟩])) := by
  obtain ⟨pv, SP, rs, h, hn⟩ := h
  exact rsend_in h hn (hr.cons _) hx0 hx1 hy0 hy1 hl
end Go.Proofs.Ytggphdbifjoflaa
