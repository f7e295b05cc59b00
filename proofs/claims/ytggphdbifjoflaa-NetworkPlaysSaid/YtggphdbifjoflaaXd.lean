import Derived.Test.YtggphdbifjoflaaXb
namespace Go.Proofs.Ytggphdbifjoflaa
open Go.RowKit
variable {W w : World} {L : List Seg} {v : Value} {l : List UInt8} {b : Nat} {N x y : Int} {ps : List Pcl}

theorem OwnS.head {E : TypeId} {size : Nat} {g n cap : Nat} {xs : List Value} {S : Seg} (h : OwnS E size (.slice (some ⟨g, 0, none⟩) n cap) n xs S) (L : List Seg) (k : Nat) (hk : k ≤ n) (c : Nat) :
    RS (S :: L) size (.slice (some ⟨g, 0, none⟩) k c) k (xs.take (k * size)) := by
  refine ⟨by rw [List.length_take, h.1]; exact Nat.min_eq_left (Nat.mul_le_mul_right _ hk), ?_⟩
  by_cases hkn : 0 < k
  · right
    rcases (h.rs L).2 with ⟨h0, _⟩ | ⟨b, o, cap', cc, E', fr, hv, hm, hc⟩
    · omega
    · obtain ⟨⟨rfl, rfl⟩, rfl⟩ := by simpa using hv
      refine ⟨g, 0, c, cc, E', fr, rfl, hm, fun j u hu => ?_⟩
      rw [List.getElem?_take] at hu
      split at hu
      · simpa using hc j u hu
      · cases hu
  · left
    have : k = 0 := by omega
    subst this
    exact ⟨rfl, _, _, rfl⟩

set_option maxHeartbeats 800000 in
theorem rtake_out (i : Int) (A : Option Addr) (n c : Nat) (hH : H W w L) (hq : w.cell? ⟨b, 1, none⟩ = some (.slice A n c)) (hi : i < 0 ∨ (n : Int) ≤ i) :
    Calls Try.prog 16 #[.pointer (some ⟨b, 0, none⟩), .int .i64 i] w (PGetNone fun w' => H W w' L) := by
  have h0 := hH.alloc (Obj.cells #[.int .i64 0, .int .i64 0, .slice none 0 0] 43)
  have h' := Lib.hid h0
  have hb : b < w.heap.size := World.block_lt_of_cell? _ _ hq
  have hq' : (w.alloc (Obj.cells #[.int .i64 0, .int .i64 0, .slice none 0 0] 43)).cell? ⟨b, 1, none⟩ = some (.slice A n c) := by rw [World.cell?_alloc_lt _ _ _ hb]; exact hq
  clear hH hq' h0
  by_cases c0 : i < 0
  · have e1 : decide (i < 0) = true := by simpa using c0
    clear hi
    go_enter Try.func16, Try.ntmps16
    go_wp2_with fail
    refine bodyPost_ret (v := .tuple #[.agg #[.int .i64 0, .int .i64 0, .slice none 0 0], .bool false]) (by simp [results, Try.results16, go_sem]) rfl ⟨rfl, h'.out.drop⟩
  · have e1 : decide (i < 0) = false := by simpa using c0
    have e2 : decide ((n : Int) ≤ i) = true := by simp; omega
    clear hi
    go_enter Try.func16, Try.ntmps16
    go_wp2_with fail
    refine bodyPost_ret (v := .tuple #[.agg #[.int .i64 0, .int .i64 0, .slice none 0 0], .bool false]) (by simp [results, Try.results16, go_sem]) rfl ⟨rfl, h'.out.drop⟩

def PRTaken (W : World) (L : List Seg) (b : Nat) (N : Int) (ps : List Pcl) (k : Nat) (p : Pcl) (e : Ending) (w' : World) : Prop :=
  ∃ A c S, e = .returned (.tuple #[.agg #[.int .i64 p.f, .int .i64 p.t, .slice A p.d.length c], .bool true]) ∧ RNet W w' (S :: L) b N (ps.eraseIdx k) ∧ OB (.slice A p.d.length c) p.d S

theorem rtake_fin {wf : World} {rs : List PR} {k : Nat} (hk : k < rs.length) {A' : Option Addr} {cap' : Nat} {SP SP' : Seg} {pv : Value}
    (hf : H W wf (rhdr b N (.slice A' (k + (rs.length - (k + 1))) cap') :: SP' :: datas rs :: L)) (hn : RNetOk ps pv SP rs)
    (ho : OwnS 43 3 (.slice A' (k + (rs.length - (k + 1))) cap') (k + (rs.length - (k + 1))) ((rs.flatMap PR.cells).take (k * 3) ++ (rs.flatMap PR.cells).drop ((k + 1) * 3)) SP') :
    RNet W wf ((rs[k]).S :: L) b N (ps.eraseIdx k) := by
  have hlen' : (rs.eraseIdx k).length = k + (rs.length - (k + 1)) := by rw [List.length_eraseIdx, if_pos hk]; omega
  refine ⟨.slice A' (rs.eraseIdx k).length cap', SP', rs.eraseIdx k, ?_, ?_, fun r hr => hn.each r (List.mem_of_mem_eraseIdx hr), ?_, by have := hn.le; rw [hlen']; omega⟩
  · rw [hlen']
    exact ((((hf.pick 2 rfl).dataOut k hk).pick 1 rfl).pick 2 rfl |> fun _ => (((hf.pick 2 rfl).dataOut k hk).pick 3 rfl).pick 3 rfl |> fun h => h |> fun _ => ((((hf.pick 2 rfl).dataOut k hk).pick 1 rfl).pick 3 rfl).pick 3 rfl)
  · rw [hlen', List.eraseIdx_eq_take_drop_succ, List.flatMap_append, flat_take, flat_drop]
    exact ho
  · rw [← hn.map, map_eraseIdx']

set_option maxRecDepth 100000 in
set_option maxHeartbeats 1600000 in
theorem rtake_in (k m : Nat) {g cap : Nat} {SP : Seg} {rs : List PR} (h : H W w (rhdr b N (.slice (some ⟨g, 0, none⟩) m cap) :: SP :: datas rs :: L))
    (hn : RNetOk ps (.slice (some ⟨g, 0, none⟩) m cap) SP rs) (hlen : rs.length = m) (hk : k < m) (hle : m ≤ cap) (hm : m ≤ 4096) (p : Pcl) (hp : ps[k]? = some p) :
    Calls Try.prog 16 #[.pointer (some ⟨b, 0, none⟩), .int .i64 k] w (PRTaken W L b N ps k p) := by
  have hkl := Lib.hid (show k < rs.length by omega)
  have h0 := h.alloc (Obj.cells #[.int .i64 0, .int .i64 0, .slice none 0 0] 43)
  have hrow0 := hn.row
  rw [hlen] at hrow0
  have hp' := (show (rs[k]'hkl.out).p = p by
    have := hp; rw [← hn.map, List.getElem?_map, List.getElem?_eq_getElem hkl.out] at this; simpa using this)
  obtain ⟨A, c, hv⟩ := (hn.each _ (List.getElem_mem hkl.out)).1.form
  have hOB := (hn.each _ (List.getElem_mem hkl.out)).1
  rw [hp'] at hv hOB
  rw [hv] at hOB
  obtain ⟨g', cap2, hg', _, c0, c1, c2⟩ := hn.cells h0 (fun p hp => by simp [hp]) k hkl.out
  obtain ⟨rfl, rfl⟩ : g' = g ∧ cap2 = cap := by simp at hg'; exact ⟨hg'.1.symm, hg'.2.2.symm⟩
  rw [hp'] at c0 c1
  rw [hv] at c2
  have hone := cells_one rs (fun r hr => by obtain ⟨A, c, hv⟩ := (hn.each r hr).1.form; exact ⟨A, _, c, hv⟩)
  have hone' := Lib.hid hone
  have q1 : (w.alloc (Obj.cells #[.int .i64 0, .int .i64 0, .slice none 0 0] 43)).cell? ⟨b, 1, none⟩ = some (.slice (some ⟨g', 0, none⟩) m cap2) := h0.cellAt 1 0 1 rfl rfl rfl
  have hlen' := Lib.hid hlen
  have hn' := Lib.hid hn
  have h' := Lib.hid (h0.alloc (Obj.cells #[.int .i64 p.f, .int .i64 p.t, .slice A p.d.length c] 43))
  have hrow := Lib.hid hrow0
  have hOB' := Lib.hid hOB
  have hhd := Lib.hid ((hrow0.head (rhdr b N (.slice (some ⟨g', 0, none⟩) m cap2) :: datas rs :: [(w.heap.size, Obj.cells #[.int .i64 0, .int .i64 0, .slice none 0 0] 43)] :: L) k (by omega) cap2))
  have hb : b < w.heap.size := h.ltAt 0 0 rfl rfl
  clear hrow0 hone h h0 hn hlen hp hg' hv hOB hp'
  have hki : (k : Int) < (m : Int) := by omega
  have hk1 : (k : Int) + 1 ≤ (m : Int) := by omega
  have hk2 : k ≤ m := by omega
  have hk3 : (k : Int) ≤ (m : Int) := by omega
  have hkc : k ≤ cap2 := by omega
  have hwr : IntKind.i64.wrap ((k : Int) + 1) = (k : Int) + 1 := by rw [IntKind.wrap_i64]; omega
  have hp0 : (0 : Int) ≤ (k : Int) + 1 := by omega
  have hp2 : ((k : Int) + 1).toNat = k + 1 := by omega
  have hcm : ¬ cap2 = 0 := by omega
  have e1 : decide ((k : Int) < 0) = false := by simp
  have e2 : decide ((m : Int) ≤ (k : Int)) = false := by simp; omega
  obtain ⟨A1, hA, hA1⟩ : ∃ A1 : Option Addr, (if cap2 = k + 1 then some (⟨g', 0, none⟩ : Addr) else some ⟨g', (k + 1) * 3, none⟩) = A1 ∧ (k + 1 < m → A1 = some ⟨g', (k + 1) * 3, none⟩) := by
    by_cases hc : cap2 = k + 1
    · exact ⟨_, rfl, fun h => by omega⟩
    · exact ⟨_, rfl, fun _ => by rw [if_neg hc]⟩
  have hA1' := Lib.hid hA1
  clear hA1
  go_enter Try.func16, Try.ntmps16
  go_wp2_with fail
  have hN := Lib.hid (OwnS.nil 43 3)
  have y1 := Lib.hid (show ∀ u ∈ (rs.flatMap PR.cells).take (k * 3), u.oneCell' = true from fun u hu => hone'.out u (List.mem_of_mem_take hu))
  have y2 := Lib.hid (show ∀ u ∈ (rs.flatMap PR.cells).drop ((k + 1) * 3), u.oneCell' = true from fun u hu => hone'.out u (List.mem_of_mem_drop hu))
  have x1 := Lib.hid (show RS ([] :: [((w.alloc (Obj.cells #[.int .i64 0, .int .i64 0, .slice none 0 0] 43)).heap.size, Obj.cells #[.int .i64 p.f, .int .i64 p.t, .slice A p.d.length c] 43)] :: [(w.heap.size, Obj.cells #[.int .i64 0, .int .i64 0, .slice none 0 0] 43)] :: rhdr b N (.slice (some ⟨g', 0, none⟩) m cap2) :: SP :: datas rs :: L) 3 (.slice (some ⟨g', 0, none⟩) k cap2) k ((rs.flatMap PR.cells).take (k * 3)) from hhd.out.mono fun p hp => by simp only [List.flatten_cons, List.mem_append] at hp ⊢; rcases hp with h | h | h | h | h <;> simp [h])
  have x2 := Lib.hid (hrow.out.sub (datas rs :: L) (k + 1) (by omega) A1 (cap2 - (k + 1)) hA1'.out)
  have b1 : (0 + k) * 40 ≤ 140737488355328 := by omega
  have b2 : 0 + k ≤ 140737488355328 := by omega
  have b3 : (k + (m - (k + 1))) * 40 ≤ 140737488355328 := by omega
  have b4 : k + (m - (k + 1)) ≤ 140737488355328 := by omega
--REGION 4
  refine wpF_start (S := (fun w' => w'.cell? ⟨b, 1, none⟩ = some (.slice (some ⟨g', 0, none⟩) m cap2))) (fins := [18]) (by kernel_rfl) ?_ (fun hHeld => ?_)
  · exact h'.out.drew.cellAt 2 0 1 rfl rfl rfl
  refine wpF_take 0 (v := ?_) hHeld (by simp only [List.getElem?_toArray, List.getElem?_cons_zero]; exact rfl) (by kernel_rfl) (by exact fun _ _ _ h => h) (by rfl) ?_ ?_
  rotate_left
  · (intro w hSw; (try dsimp only at hSw); go_simp; try with_reducible rfl)
  try simp only [Act.put, List.setIfInBounds_toArray, List.set_cons_zero, List.set_cons_succ]
  refine wpF_take 1 (v := ?_) hHeld (by simp only [List.getElem?_toArray, List.getElem?_cons_succ, List.getElem?_cons_zero]; exact rfl) (by kernel_rfl) (by exact fun _ _ _ h => h) (by rfl) ?_ ?_
  rotate_left
  · (intro w hSw; (try dsimp only at hSw); go_simp; try with_reducible rfl)
  try simp only [Act.put, List.setIfInBounds_toArray, List.set_cons_zero, List.set_cons_succ]
  refine wpF_take 2 (v := ?_) hHeld (by simp only [List.getElem?_toArray, List.getElem?_cons_succ, List.getElem?_cons_zero]; exact rfl) (by kernel_rfl) (by exact fun _ _ _ h => h) (by rfl) ?_ ?_
  rotate_left
  · (intro w hSw; (try dsimp only at hSw); go_simp; try with_reducible rfl)
  try simp only [Act.put, List.setIfInBounds_toArray, List.set_cons_zero, List.set_cons_succ]
  refine wpF_take 3 (v := ?_) hHeld (by simp only [List.getElem?_toArray, List.getElem?_cons_succ, List.getElem?_cons_zero]; exact rfl) (by kernel_rfl) (by exact fun _ _ _ h => h) (by rfl) ?_ ?_
  rotate_left
  · (intro w hSw; (try dsimp only at hSw); go_simp; try with_reducible rfl)
  try simp only [Act.put, List.setIfInBounds_toArray, List.set_cons_zero, List.set_cons_succ]
  refine wpF_take 4 (v := ?_) hHeld (by simp only [List.getElem?_toArray, List.getElem?_cons_succ, List.getElem?_cons_zero]; exact rfl) (by kernel_rfl) (by exact fun _ _ _ h => h) (by rfl) ?_ ?_
  rotate_left
  · (intro w hSw; (try dsimp only at hSw); go_simp; try with_reducible rfl)
  try simp only [Act.put, List.setIfInBounds_toArray, List.set_cons_zero, List.set_cons_succ]
  refine wpF_take 5 (v := ?_) hHeld (by simp only [List.getElem?_toArray, List.getElem?_cons_succ, List.getElem?_cons_zero]; exact rfl) (by kernel_rfl) (by exact fun _ _ _ h => h) (by rfl) ?_ ?_
  rotate_left
  · (intro w hSw; (try dsimp only at hSw); go_simp; try with_reducible rfl)
  try simp only [Act.put, List.setIfInBounds_toArray, List.set_cons_zero, List.set_cons_succ]
  refine wpF_take 6 (v := ?_) hHeld (by simp only [List.getElem?_toArray, List.getElem?_cons_succ, List.getElem?_cons_zero]; exact rfl) (by kernel_rfl) (by exact fun _ _ _ h => h) (by rfl) ?_ ?_
  rotate_left
  · (intro w hSw; (try dsimp only at hSw); go_simp; try with_reducible rfl)
  try simp only [Act.put, List.setIfInBounds_toArray, List.set_cons_zero, List.set_cons_succ]
  refine wpF_take 8 (v := ?_) hHeld (by simp only [List.getElem?_toArray, List.getElem?_cons_succ, List.getElem?_cons_zero]; exact rfl) (by kernel_rfl) (by exact fun _ _ _ h => h) (by rfl) ?_ ?_
  rotate_left
  · (intro w hSw; (try dsimp only at hSw); go_simp; try with_reducible rfl)
  try simp only [Act.put, List.setIfInBounds_toArray, List.set_cons_zero, List.set_cons_succ]
  refine wpF_take 9 (v := ?_) hHeld (by simp only [List.getElem?_toArray, List.getElem?_cons_succ, List.getElem?_cons_zero]; exact rfl) (by kernel_rfl) (by exact fun _ _ _ h => h) (by rfl) ?_ ?_
  rotate_left
  · (intro w hSw; (try dsimp only at hSw); go_simp; try with_reducible rfl)
  try simp only [Act.put, List.setIfInBounds_toArray, List.set_cons_zero, List.set_cons_succ]
  refine wpF_take 10 (v := ?_) hHeld (by simp only [List.getElem?_toArray, List.getElem?_cons_succ, List.getElem?_cons_zero]; exact rfl) (by kernel_rfl) (by exact fun _ _ _ h => h) (by rfl) ?_ ?_
  rotate_left
  · (intro w hSw; (try dsimp only at hSw); go_simp; try with_reducible rfl)
  try simp only [Act.put, List.setIfInBounds_toArray, List.set_cons_zero, List.set_cons_succ]
  refine wpF_take 11 (v := ?_) hHeld (by simp only [List.getElem?_toArray, List.getElem?_cons_succ, List.getElem?_cons_zero]; exact rfl) (by kernel_rfl) (by exact fun _ _ _ h => h) (by rfl) ?_ ?_
  rotate_left
  · (intro w hSw; (try dsimp only at hSw); go_simp; try with_reducible rfl)
  try simp only [Act.put, List.setIfInBounds_toArray, List.set_cons_zero, List.set_cons_succ]
  refine wpF_take 12 (v := ?_) hHeld (by simp only [List.getElem?_toArray, List.getElem?_cons_succ, List.getElem?_cons_zero]; exact rfl) (by kernel_rfl) (by exact fun _ _ _ h => h) (by rfl) ?_ ?_
  rotate_left
  · (intro w hSw; (try dsimp only at hSw); go_simp; try with_reducible rfl)
  try simp only [Act.put, List.setIfInBounds_toArray, List.set_cons_zero, List.set_cons_succ]
  refine wpF_take 13 (v := ?_) hHeld (by simp only [List.getElem?_toArray, List.getElem?_cons_succ, List.getElem?_cons_zero]; exact rfl) (by kernel_rfl) (by exact fun _ _ _ h => h) (by rfl) ?_ ?_
  rotate_left
  · (intro w hSw; (try dsimp only at hSw); go_simp; try with_reducible rfl)
  try simp only [Act.put, List.setIfInBounds_toArray, List.set_cons_zero, List.set_cons_succ]
  refine wpF_take 14 (v := ?_) hHeld (by simp only [List.getElem?_toArray, List.getElem?_cons_succ, List.getElem?_cons_zero]; exact rfl) (by kernel_rfl) (by exact fun _ _ _ h => h) (by rfl) ?_ ?_
  rotate_left
  · (intro w hSw; (try dsimp only at hSw); go_simp; try with_reducible rfl)
  try simp only [Act.put, List.setIfInBounds_toArray, List.set_cons_zero, List.set_cons_succ]
  refine wpF_one 7 (by simp only [List.getElem?_toArray, List.getElem?_cons_succ, List.getElem?_cons_zero]; exact rfl) (by kernel_rfl) (fun K hK => ?_)
  refine step_append rfl (.const (.slice none 0 0)) (.tmp 32) rfl et49 rfl (by simp [Act.eval]) h'.out.drew.addNil hN.out x1.out y1.out b1 b2 ?_
  intro B1 d1 w1 S1 h1 h2
  simp only [Nat.zero_add, List.nil_append] at h1 h2 ⊢
  refine hK _ _ ?_ (fun hHeld => ?_)
  · exact h1.cellAt 3 0 1 rfl rfl rfl
  clear hK K
  try simp only [Act.put, List.setIfInBounds_toArray, List.set_cons_zero, List.set_cons_succ]
  refine wpF_one 15 (by simp only [List.getElem?_toArray, List.getElem?_cons_succ, List.getElem?_cons_zero]; exact rfl) (by kernel_rfl) (fun K hK => ?_)
  refine step_append rfl (.tmp 33) (.tmp 40) rfl et49 (by simp [Act.eval]) (by simp [Act.eval]) h1 h2 ((((x2.out.cons _).cons _).cons _).cons _) y2.out b3 b4 ?_
  intro B2 d2 w2 S2 h3 h4
  have hb2 := h3.ltAt 3 0 rfl rfl
  refine hK _ _ ?_ (fun hHeld => ?_)
  · exact h3.cellAt 3 0 1 rfl rfl rfl
  clear hK K
  try simp only [Act.put, List.setIfInBounds_toArray, List.set_cons_zero, List.set_cons_succ]
  refine wpF_one 16 (by simp only [List.getElem?_toArray, List.getElem?_cons_succ, List.getElem?_cons_zero]; exact rfl) (by kernel_rfl) (fun K hK => ?_)
  go_simp
  refine hK _ _ ?_ (fun hHeld => ?_)
  · exact hHeld
  clear hK K
  try simp only [Act.put, List.setIfInBounds_toArray, List.set_cons_zero, List.set_cons_succ]
  refine wpF_take 17 (v := ?_) hHeld (by simp only [List.getElem?_toArray, List.getElem?_cons_succ, List.getElem?_cons_zero]; exact rfl) (by kernel_rfl) (by exact fun _ _ _ h => h) (by rfl) ?_ ?_
  rotate_left
  · (intro w hSw; (try dsimp only at hSw); go_simp; try with_reducible rfl)
  try simp only [Act.put, List.setIfInBounds_toArray, List.set_cons_zero, List.set_cons_succ]
  refine wpF_last 18 (by simp only [List.getElem?_toArray, List.getElem?_cons_succ, List.getElem?_cons_zero]; exact rfl) (by kernel_rfl) (by decide) (fun K hK => ?_)
  have g1 : w2.cell? ⟨b, 1, none⟩ = some (.slice (some ⟨g', 0, none⟩) m cap2) := h3.cellAt 3 0 1 rfl rfl rfl
  have g2 : w2.frozen? ⟨b, 1, none⟩ = false := h3.freeAt 3 0 1 rfl rfl
  go_simp
  refine hK _ _ ?_
  clear hK K
  try simp only [Act.put, List.setIfInBounds_toArray, List.set_cons_zero, List.set_cons_succ]
  refine wpF_done (by kernel_rfl) ?_
--END 4
  have g5 : w2.cell? ⟨w.heap.size, 0, none⟩ = some (.int .i64 0) := h3.cellAt 2 0 0 rfl rfl rfl
  have g6 : w2.cell? ⟨w.heap.size, 1, none⟩ = some (.int .i64 0) := h3.cellAt 2 0 1 rfl rfl rfl
  have g7 : w2.cell? ⟨w.heap.size, 2, none⟩ = some (.slice none 0 0) := h3.cellAt 2 0 2 rfl rfl rfl
  have g8 : ∀ k, w2.frozen? ⟨w.heap.size, k, none⟩ = false := fun k => h3.freeAt 2 0 k rfl rfl
  have i0 : w2.cell? ⟨w.heap.size + 1, 0, none⟩ = some (.int .i64 p.f) := h3.cellAt 1 0 0 rfl (by rw [World.size_alloc]; rfl) rfl
  have i1 : w2.cell? ⟨w.heap.size + 1, 1, none⟩ = some (.int .i64 p.t) := h3.cellAt 1 0 1 rfl (by rw [World.size_alloc]; rfl) rfl
  have i2 : w2.cell? ⟨w.heap.size + 1, 2, none⟩ = some (.slice A p.d.length c) := h3.cellAt 1 0 2 rfl (by rw [World.size_alloc]; rfl) rfl
  have nb : ¬ w.heap.size = b := by omega
  have nb1 : ¬ w.heap.size + 1 = b := by omega
  have h3' := Lib.hid h3
  have h4' := Lib.hid h4
  clear h3 h4 h1 h2
  go_wp2
  have hA := (h3'.out.pick 3 rfl).setCell 1 (.slice B2 (k + (m - (k + 1))) d2)
  have hB := (hA.pick 3 rfl).set3 (x := .int .i64 p.f) (y := .int .i64 p.t) (z := .slice A p.d.length c)
  have k0 := hB.cellAt 0 0 0 rfl rfl rfl
  have k1 := hB.cellAt 0 0 1 rfl rfl rfl
  have k2 := hB.cellAt 0 0 2 rfl rfl rfl
  obtain rfl := hlen'.out
  refine bodyPost_ret (v := .tuple #[.agg #[.int .i64 p.f, .int .i64 p.t, .slice A p.d.length c], .bool true]) (by simp [results, Try.results16, go_sem, k0, k1, k2]) rfl
    ⟨A, c, _, rfl, rtake_fin (A' := B2) (cap' := d2) (SP' := S2) hkl.out ((((hB.drop.pick 2 rfl).drop).pick 2 rfl).drop) hn'.out h4'.out, hOB'.out⟩

theorem rtake_net {pv : Value} {SP : Seg} {rs : List PR} (h : H W w (rhdr b N pv :: SP :: datas rs :: L)) (hn : RNetOk ps pv SP rs) (k : Nat) (p : Pcl) (hp : ps[k]? = some p) :
    Calls Try.prog 16 #[.pointer (some ⟨b, 0, none⟩), .int .i64 k] w (PRTaken W L b N ps k p) := by
  have hk : k < rs.length := by
    have := (List.getElem?_eq_some_iff.1 hp).1
    rw [← hn.map] at this; simpa using this
  obtain ⟨g, cap, rfl, hle, _⟩ := hn.cells h (fun p hp => by simp [hp]) k hk
  exact rtake_in k rs.length h hn rfl hk hle hn.le p hp
end Go.Proofs.Ytggphdbifjoflaa
