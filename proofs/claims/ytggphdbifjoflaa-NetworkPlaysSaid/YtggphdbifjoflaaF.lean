import Derived.Test.YtggphdbifjoflaaE
namespace Go.Proofs.Ytggphdbifjoflaa
open Go.RowKit
variable {W w : World} {L : List Seg} {v : Value} {l : List UInt8} {b : Nat} {N x y : Int} {ps : List Pcl}

set_option maxHeartbeats 400000 in
theorem dup_nil (i : Int) (w : World) : Calls Try.prog 10 #[.pointer none, .int .i64 i] w (PErr 1 fun w' => w = w') := by
  go_enter Try.func10, Try.ntmps10
  go_wp2
  go_ret
  exact ⟨rfl, rfl⟩

set_option maxHeartbeats 800000 in
theorem dup_out (i : Int) (A : Option Addr) (n c : Nat) (hH : H W w L) (hq : w.cell? ⟨b, 1, none⟩ = some (.slice A n c)) (hi : i < 0 ∨ (n : Int) ≤ i) :
    Calls Try.prog 10 #[.pointer (some ⟨b, 0, none⟩), .int .i64 i] w (PErr 6 fun w' => H W w' L) := by
  have hi' := Lib.hid hi
  have hq' := Lib.hid hq
  have h' := Lib.hid hH
  clear hi hq hH
  go_enter Try.func10, Try.ntmps10
  go_wp2_with (go_at_call 9; refine (get_out i A n c h'.out hq'.out hi'.out).mono ?_; rintro e w1 ⟨rfl, h1⟩)
  go_ret
  exact ⟨rfl, (h1.alloc _).drop⟩

set_option maxHeartbeats 800000 in
theorem dup_full (k : Nat) {pv : Value} {SP : Seg} {rs : List PR} (h : H W w (hdr b N pv :: SP :: datas rs :: L)) (hn : NetOk ps pv SP rs) (hk : k < rs.length) (hf : rs.length = 4096) :
    Calls Try.prog 10 #[.pointer (some ⟨b, 0, none⟩), .int .i64 k] w (PErr 5 fun w' => H W w' (hdr b N pv :: SP :: datas rs :: L)) := by
  obtain ⟨A1, cap1, rfl⟩ := hn.row.form
  have hf' := Lib.hid hf
  have h' := Lib.hid h
  have hn' := Lib.hid hn
  clear h hf hn
  go_enter Try.func10, Try.ntmps10
  go_wp2_with (go_at_call 9; refine (get_net h'.out hn'.out k hk).mono ?_; rintro e w1 ⟨A', cap', S, rfl, h1, h2⟩; have q1 : w1.cell? ⟨b, 1, none⟩ = some (.slice A1 4096 cap1) := hf'.out ▸ h1.cellAt 1 0 1 rfl rfl rfl; have q2 := h1.ltAt 1 0 rfl rfl)
  go_ret
  exact ⟨rfl, (h1.alloc _).drop.drop⟩

theorem dup_fin {wf : World} {A : Option Addr} {cap A1 cap1 A' cap'} {SP SP' S X Y : Seg} {rs : List PR} {p : Pcl}
    (hf : H W wf ([(b, Obj.cells (#[.int .i64 N, .slice A1 rs.length cap1].setIfInBounds 1 (.slice A' (rs.length + 1) cap')) 57 (0, 0))] :: (SP' :: X :: Y :: S :: hdr b N (.slice A1 rs.length cap1) :: datas rs :: L).eraseIdx 4))
    (hn : NetOk ps (.slice A1 rs.length cap1) SP rs) (h5 : OwnS 30 3 (.slice A' (rs.length + 1) cap') (rs.length + 1) (rs.flatMap PR.cells ++ [.int .i64 p.f, .int .i64 p.t, .slice A p.d.length cap]) SP')
    (h2 : OB (.slice A p.d.length cap) p.d S) (hl : p.d.length ≤ 140737488355328) (hrl : rs.length < 4096) : Net W wf L b N (ps ++ [p]) := by
  have g : H W wf (hdr b N (.slice A' (rs.length + 1) cap') :: SP' :: X :: Y :: S :: datas rs :: L) := hf
  have g2 : H W wf (S :: Y :: X :: SP' :: hdr b N (.slice A' (rs.length + 1) cap') :: datas rs :: L) := ((((g.pick 1 rfl).pick 2 rfl).pick 3 rfl).pick 4 rfl)
  exact send_fin (((g2.pick 4 rfl).pick 4 rfl).pick 4 rfl |> fun _ => (show H W wf (hdr b N (.slice A' (rs.length + 1) cap') :: SP' :: X :: S :: Y :: datas rs :: L) from ((((g2.pick 1 rfl).pick 1 rfl).pick 2 rfl).pick 3 rfl).pick 4 rfl)) hn h5 h2 hl hrl

set_option maxRecDepth 100000 in
set_option maxHeartbeats 1600000 in
theorem dup_ok (k : Nat) {pv : Value} {SP : Seg} {rs : List PR} (h : H W w (hdr b N pv :: SP :: datas rs :: L)) (hn : NetOk ps pv SP rs) (hk : k < rs.length) (hrl : rs.length < 4096) :
    Calls Try.prog 10 #[.pointer (some ⟨b, 0, none⟩), .int .i64 k] w (PErr 0 fun w' => Net W w' L b N (ps ++ [(rs[k]).p])) := by
  obtain ⟨A1, cap1, rfl⟩ := hn.row.form
  have hl := (hn.each _ (List.getElem_mem hk)).2
  have hl' := Lib.hid hl
  have h' := Lib.hid h
  have hn' := Lib.hid hn
  have b1 : (rs.length + 1) * 40 ≤ 140737488355328 := by omega
  have b2 : rs.length + 1 ≤ 140737488355328 := by omega
  clear h hn hl
  generalize hp : (rs[k]).p = p at hl'
  have hp' := Lib.hid hp
  clear hp
  go_enter Try.func10, Try.ntmps10
  go_wp2_with (go_at_call 9; refine (get_net h'.out hn'.out k hk).mono ?_; rw [hp'.out]; rintro e w1 ⟨A, cap, S, rfl, h1, h2⟩; have q1 : w1.cell? ⟨b, 1, none⟩ = some (.slice A1 rs.length cap1) := h1.cellAt 1 0 1 rfl rfl rfl; have q2 := h1.ltAt 1 0 rfl rfl)
  have h0 := h1.alloc (.cells #[.int .i64 p.f, .int .i64 p.t, .slice A p.d.length cap] 30)
  have h0' := Lib.hid h0
  have hq2 := Lib.hid ((h0.alloc (.cells #[.int .i64 p.f, .int .i64 p.t, .slice A p.d.length cap] 30)).pick 4 rfl)
  have h3 := Lib.hid (((h0.lit (E := 30) (size := 3) #[.int .i64 p.f, .int .i64 p.t, .slice A p.d.length cap] 1 (of_decide_eq_true rfl) rfl).rs ([(w1.heap.size, Obj.cells #[.int .i64 p.f, .int .i64 p.t, .slice A p.d.length cap] 30)] :: S :: hdr b N (.slice A1 rs.length cap1) :: datas rs :: L)).cons SP)
  have h4 : ∀ u ∈ [Value.int .i64 p.f, .int .i64 p.t, .slice A p.d.length cap], u.oneCell' = true := by intro u hu; simp at hu; rcases hu with rfl | rfl | rfl <;> rfl
  have h2' := Lib.hid h2
  have h1' := Lib.hid h1
  clear h0 h1 h2
  go_region_law (
    (refine step_append rfl (.tmp 29) (.tmp 31) rfl et47 (by simp [Act.eval]) (by simp [Act.eval]) hq2.out.drew hn'.out.row h3.out h4 b1 b2 ?_; intro A' cap' w2 SP' h5 h6
     have g1 : w2.cell? ⟨b, 1, none⟩ = some (.slice A1 rs.length cap1) := h5.cellAt 4 0 1 rfl rfl rfl
     have g2 : w2.frozen? ⟨b, 1, none⟩ = false := h5.freeAt 4 0 1 rfl rfl))
  all_goals (
    go_wp2
    have hf := (h5.pick 4 rfl).setCell 1 (.slice A' (rs.length + 1) cap')
    go_ret
    exact ⟨rfl, dup_fin hf hn'.out h6 h2'.out hl'.out hrl⟩)
end Go.Proofs.Ytggphdbifjoflaa
