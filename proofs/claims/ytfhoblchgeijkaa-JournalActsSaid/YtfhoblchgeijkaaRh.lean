import Derived.Test.YtfhoblchgeijkaaRg
namespace Go.Proofs.Ytfhoblchgeijkaa
open Go.RowKit Go.Maps
variable {W w : World} {L T : List Seg} {v : Value} {l n bs : Bs} {b : Nat} {d : AD} {S : Seg}

theorem rhdr_app (b : Nat) (d : AD) (lv : Value) : rhdr b d lv = rhdr b d lv := rfl

set_option maxRecDepth 100000 in
set_option maxHeartbeats 6400000 in
theorem rapp_found {vb : Value} (h : RDisk W w L b d) (hr : RL L vb bs) (hbs : bs.length ≤ 1099511627776) (hroomX : d.room bs.length) (hoe : d.openE n = 0) (hsome : (d.find n).isNone = false) :
    Calls Try.prog 35 #[.pointer (some ⟨b, 0, none⟩), .string (bstr n), vb] w (PErr (d.appE n) fun w' => RDisk W w' L b (d.app n bs)) := by
  obtain ⟨lv, SL, rs, hX, hkX⟩ := h
  have h01 : n ≠ [] ∧ d.off = false := by
    unfold AD.openE at hoe
    by_cases h0 : n = []
    · simp [h0] at hoe
    · by_cases h1 : d.off = true
      · simp [h0, h1] at hoe
      · exact ⟨h0, by simpa using h1⟩
  have ks := nonempty_bstr h01.1
  have c3 : w.cell? ⟨b, 3, none⟩ = some (.bool false) := by have := hX.cellAt 0 0 3 rfl rfl (v := .bool d.off) rfl; rw [h01.2] at this; exact this
  have hr' := Lib.hid hr
  have hoe' := Lib.hid hoe
  have happ : d.app n bs = ({ d with fs := updL n (fun f => { f with data := f.data ++ bs }) d.fs } : AD).wrote := by
    unfold AD.app AD.appF; rw [if_pos hoe, if_neg (by rw [hsome]; simp)]
  clear hr h01 hoe

  have hlen2 : rs.length = d.fs.length := by rw [← hkX.fs, List.length_map]
  obtain ⟨k, hkl, e1, e2, e3, e4⟩ := idx_some (d := d) hsome
  have hkr : k < rs.length := by omega
  have hra : d.fs[k] = rs[k].a := by simp [← hkX.fs]
  have hfd2 := rfind (n := n) hX hkX.row hkX.fs hkX.le
  rw [e1] at hfd2
  have hok := hkX.each _ (List.getElem_mem hkr)
  obtain ⟨Av, cv, hv⟩ := hok.1.form
  have hdlb := hok.2.1
  have hcont0 := RF.rs (List.getElem_mem hkr) hok L
  obtain ⟨A0, cap0, hlv⟩ := hkX.row.form
  have hupd := updL_set (fun f => { f with data := f.data ++ bs }) d.fs k hkl e3 e4
  rw [hra] at hupd
  have hroom2 : rs[k].a.data.length + bs.length ≤ 1099511627776 := hroomX _ (by rw [← hra]; exact List.getElem_mem hkl)
  obtain ⟨rk, hrk⟩ : ∃ rk, rs[k] = rk := ⟨_, rfl⟩
  rw [hrk] at hok hv hdlb hcont0 hupd hroom2
  obtain ⟨dl, hdl⟩ : ∃ dl, rk.a.data.length = dl := ⟨_, rfl⟩
  obtain ⟨dt, hdt⟩ : ∃ dt, rk.a.data = dt := ⟨_, rfl⟩
  obtain ⟨du, hdu⟩ : ∃ du, rk.a.dur = du := ⟨_, rfl⟩
  rw [hdl] at hv hdlb hcont0 hroom2
  rw [hdt] at hcont0
  have hcells := Lib.hid (show rs[k].cells = [.string (bstr rk.a.name), .slice Av dl cv, .int .i64 du] by rw [hrk]; unfold RF.cells; rw [hv, hdu])
  have hfull := Lib.hid (hkX.row.rs [])
  rw [hlv] at hfull
  have hone := Lib.hid (cells_one hkX.each)
  have hKX := Lib.hid hkX
  have hHX := Lib.hid hX
  have hu1 := Lib.hid (u8s_one dt)
  have hu2 := Lib.hid (u8s_one bs)
  obtain ⟨N, hN⟩ : ∃ N, rs.length = N := ⟨_, rfl⟩
  have hle2 := hkX.le
  have hki : (k : Int) < (N : Int) := by omega
  have hkn : k < N := by omega
  rw [hN] at hlv hfull hle2
  have x0 : w.cell? ⟨b, 0, none⟩ = some (.slice A0 N cap0) := by rw [← hlv]; exact hX.cellAt 0 0 0 rfl rfl rfl
  have xb : b < w.heap.size := hX.ltAt 0 0 rfl rfl
  have hN' := Lib.hid hN
  have hrk' := Lib.hid hrk
  have hok' := Lib.hid hok
  have hupd' := Lib.hid hupd
  have hdl' := Lib.hid hdl
  have hdt' := Lib.hid hdt
  have hv' := Lib.hid hv
  have hdu' := Lib.hid hdu
  have hcont0' := Lib.hid (show RS (rdatas rs :: L) 1 (.slice Av dl cv) dl (u8s dt) by rw [← hv]; exact hcont0)
  have hlv' := Lib.hid hlv
  have hkr' := Lib.hid hkr
  have hsome' := Lib.hid hsome
  have hlX := hkX.left
  clear hX hkX hlen2 e1 e2 e3 e4 hra hok hv hcont0 hlv hupd hN hrk hdl hdt hdu hsome

  go_enter Try.func35, Try.ntmps35
  go_wp2_with (first
    | (go_at_call 54; refine hfd2.mono ?_; rintro e w' ⟨rfl, rfl⟩)
    | (at_builtin; refine wpl_append rfl (.tmp 26) (.tmp 30) rfl et41 rfl rfl (hHX.out.alloc (.cells #[] 89)) (hHX.out.lit #[] 0 (by simp [maxLen]) rfl) (hfull.out.up (by simp)) hone.out (by omega) (by omega) ?_; intro A2 c2 w2 S2 h2 h3
       have p1 : w2.cell? ⟨b, 0, none⟩ = some (.slice A0 N cap0) := by rw [← hlv'.out]; exact h2.cellAt 1 0 0 rfl rfl rfl
       have p2 : w2.frozen? ⟨b, 0, none⟩ = false := h2.freeAt 1 0 0 rfl rfl
       have h3x := Lib.hid (show OwnS 89 3 (.slice A2 N c2) N (rs.flatMap RF.cells) S2 by simpa using h3)
       have h2x := Lib.hid h2
       clear h2 h3))
  obtain ⟨g2, c2', cur2, q1, q2, _, _, q5⟩ := rrow (by rw [hN'.out]; exact h3x.out) (by rw [hN'.out]; omega)
  obtain ⟨rfl, rfl⟩ : A2 = some ⟨g2, 0, none⟩ ∧ c2 = c2' := by rw [hN'.out] at q1; simpa using q1
  subst q2
  have h3' := Lib.hid (show H W (w2.setCell ⟨b, 0, none⟩ (.slice (some ⟨g2, 0, none⟩) N c2)) (rhdr b d (.slice (some ⟨g2, 0, none⟩) N c2) :: [(g2, .cells cur2 89 (0, 0))] :: SL :: rdatas rs :: L) from
    (h2x.out.pick 1 rfl).setCell 0 (.slice (some ⟨g2, 0, none⟩) N c2))
  have hcur1 := Lib.hid (show cur2[k * 3 + 1]? = some (.slice Av dl cv) by rw [q5 k hkr'.out 1 (by decide), hcells.out]; rfl)
  clear q1 q5 p1 p2 h2x x0
  generalize w2.setCell ⟨b, 0, none⟩ (.slice (some ⟨g2, 0, none⟩) N c2) = w3 at *
  have hcont := Lib.hid ((((hcont0'.out.cons SL).cons [(g2, .cells cur2 89 (0, 0))]).cons (rhdr b d (.slice (some ⟨g2, 0, none⟩) N c2))).cons [(w3.heap.size, .cells #[] 5 (0, 0))])
  have hvb := Lib.hid (show ∀ S4 : Seg, RS (S4 :: rhdr b d (.slice (some ⟨g2, 0, none⟩) N c2) :: [(g2, .cells cur2 89 (0, 0))] :: SL :: rdatas rs :: L) 1 vb bs.length (u8s bs) from fun S4 => ((((hr'.out.2.cons (rdatas rs)).cons SL).cons [(g2, .cells cur2 89 (0, 0))]).cons (rhdr b d (.slice (some ⟨g2, 0, none⟩) N c2))).cons S4)
--REGION 9
  refine wpF_start (S := (fun w' => w'.cell? ⟨b, 0, none⟩ = some (.slice (some ⟨g2, 0, none⟩) N c2) ∧ w'.cell? ⟨g2, k * 3 + 1, none⟩ = some (.slice Av dl cv))) (fins := [19]) (by kernel_rfl) ?_ (fun hHeld => ?_)
  · exact ⟨h3'.out.drew.cellAt 0 0 0 rfl rfl rfl, h3'.out.drew.cellAt 1 0 _ rfl rfl hcur1.out⟩
  refine wpF_take 0 (v := ?_) hHeld (by simp only [List.getElem?_toArray, List.getElem?_cons_zero]; exact rfl) (by kernel_rfl) (by exact fun _ _ _ h => h) (by rfl) ?_ ?_
  rotate_left
  · (intro w hSw; (try dsimp only at hSw); go_simp; try with_reducible rfl)
  try simp only [Act.put, List.setIfInBounds_toArray, List.set_cons_zero, List.set_cons_succ]
  refine wpF_take 1 (v := ?_) hHeld (by simp only [List.getElem?_toArray, List.getElem?_cons_succ, List.getElem?_cons_zero]; exact rfl) (by kernel_rfl) (by exact fun _ _ _ h => h) (by rfl) ?_ ?_
  rotate_left
  · (intro w hSw; (try dsimp only at hSw); go_simp; try with_reducible rfl)
  try simp only [Act.put, List.setIfInBounds_toArray, List.set_cons_zero, List.set_cons_succ]
  refine wpF_take 2 (v := ?_) hHeld (by simp only [List.getElem?_toArray, List.getElem?_cons_succ, List.getElem?_cons_zero]; exact rfl) (by kernel_rfl) (by exact fun _ _ _ h => h) (by rfl) ?_ ?_
  rotate_left
  · (intro w hSw; (try dsimp only at hSw); go_simp; try with_reducible rfl)
  try simp only [Act.put, List.setIfInBounds_toArray, List.set_cons_zero, List.set_cons_succ]
  refine wpF_take 3 (v := ?_) hHeld (by simp only [List.getElem?_toArray, List.getElem?_cons_succ, List.getElem?_cons_zero]; exact rfl) (by kernel_rfl) (by exact fun _ _ _ h => h) (by rfl) ?_ ?_
  rotate_left
  · (intro w hSw; (try dsimp only at hSw); go_simp; try with_reducible rfl)
  try simp only [Act.put, List.setIfInBounds_toArray, List.set_cons_zero, List.set_cons_succ]
  refine wpF_take 4 (v := ?_) hHeld (by simp only [List.getElem?_toArray, List.getElem?_cons_succ, List.getElem?_cons_zero]; exact rfl) (by kernel_rfl) (by exact fun _ _ _ h => h) (by rfl) ?_ ?_
  rotate_left
  · (intro w hSw; (try dsimp only at hSw); go_simp; try with_reducible rfl)
  try simp only [Act.put, List.setIfInBounds_toArray, List.set_cons_zero, List.set_cons_succ]
  refine wpF_take 6 (v := ?_) hHeld (by simp only [List.getElem?_toArray, List.getElem?_cons_succ, List.getElem?_cons_zero]; exact rfl) (by kernel_rfl) (by exact fun _ _ _ h => h) (by rfl) ?_ ?_
  rotate_left
  · (intro w hSw; (try dsimp only at hSw); go_simp; try with_reducible rfl)
  try simp only [Act.put, List.setIfInBounds_toArray, List.set_cons_zero, List.set_cons_succ]
  refine wpF_take 7 (v := ?_) hHeld (by simp only [List.getElem?_toArray, List.getElem?_cons_succ, List.getElem?_cons_zero]; exact rfl) (by kernel_rfl) (by exact fun _ _ _ h => h) (by rfl) ?_ ?_
  rotate_left
  · (intro w hSw; (try dsimp only at hSw); go_simp; try with_reducible rfl)
  try simp only [Act.put, List.setIfInBounds_toArray, List.set_cons_zero, List.set_cons_succ]
  refine wpF_take 8 (v := ?_) hHeld (by simp only [List.getElem?_toArray, List.getElem?_cons_succ, List.getElem?_cons_zero]; exact rfl) (by kernel_rfl) (by exact fun _ _ _ h => h) (by rfl) ?_ ?_
  rotate_left
  · (intro w hSw; (try dsimp only at hSw); go_simp; try with_reducible rfl)
  try simp only [Act.put, List.setIfInBounds_toArray, List.set_cons_zero, List.set_cons_succ]
  refine wpF_take 9 (v := ?_) hHeld (by simp only [List.getElem?_toArray, List.getElem?_cons_succ, List.getElem?_cons_zero]; exact rfl) (by kernel_rfl) (by exact fun _ _ _ h => h) (by rfl) ?_ ?_
  rotate_left
  · (intro w hSw; (try dsimp only at hSw); go_simp; try with_reducible rfl)
  try simp only [Act.put, List.setIfInBounds_toArray, List.set_cons_zero, List.set_cons_succ]
  refine wpF_take 10 (v := ?_) hHeld (by simp only [List.getElem?_toArray, List.getElem?_cons_succ, List.getElem?_cons_zero]; exact rfl) (by kernel_rfl) (by exact fun _ _ _ h => h) (by rfl) ?_ ?_
  rotate_left
  · (intro w hSw; (try dsimp only at hSw); go_simp; try with_reducible rfl)
  try simp only [Act.put, List.setIfInBounds_toArray, List.set_cons_zero, List.set_cons_succ]
  refine wpF_take 11 (v := ?_) hHeld (by simp only [List.getElem?_toArray, List.getElem?_cons_succ, List.getElem?_cons_zero]; exact rfl) (by kernel_rfl) (by exact fun _ _ _ h => h) (by rfl) ?_ ?_
  rotate_left
  · (intro w hSw; (try dsimp only at hSw); go_simp; try with_reducible rfl)
  try simp only [Act.put, List.setIfInBounds_toArray, List.set_cons_zero, List.set_cons_succ]
  refine wpF_take 12 (v := ?_) hHeld (by simp only [List.getElem?_toArray, List.getElem?_cons_succ, List.getElem?_cons_zero]; exact rfl) (by kernel_rfl) (by exact fun _ _ _ h => h) (by rfl) ?_ ?_
  rotate_left
  · (intro w hSw; (try dsimp only at hSw); go_simp; try with_reducible rfl)
  try simp only [Act.put, List.setIfInBounds_toArray, List.set_cons_zero, List.set_cons_succ]
  refine wpF_take 13 (v := ?_) hHeld (by simp only [List.getElem?_toArray, List.getElem?_cons_succ, List.getElem?_cons_zero]; exact rfl) (by kernel_rfl) (by exact fun _ _ _ h => h) (by rfl) ?_ ?_
  rotate_left
  · (intro w hSw; (try dsimp only at hSw); go_simp; try with_reducible rfl)
  try simp only [Act.put, List.setIfInBounds_toArray, List.set_cons_zero, List.set_cons_succ]
  refine wpF_take 15 (v := ?_) hHeld (by simp only [List.getElem?_toArray, List.getElem?_cons_succ, List.getElem?_cons_zero]; exact rfl) (by kernel_rfl) (by exact fun _ _ _ h => h) (by rfl) ?_ ?_
  rotate_left
  · (intro w hSw; (try dsimp only at hSw); go_simp; try with_reducible rfl)
  try simp only [Act.put, List.setIfInBounds_toArray, List.set_cons_zero, List.set_cons_succ]
  refine wpF_one 5 (by simp only [List.getElem?_toArray, List.getElem?_cons_succ, List.getElem?_cons_zero]; exact rfl) (by kernel_rfl) (fun K hK => ?_)
  go_simp
  refine hK _ _ ?_ (fun hHeld => ?_)
  · exact ⟨(h3'.out.drew.alloc _).cellAt 1 0 0 rfl rfl rfl, (h3'.out.drew.alloc _).cellAt 2 0 _ rfl rfl hcur1.out⟩
  clear hK K
  try simp only [Act.put, List.setIfInBounds_toArray, List.set_cons_zero, List.set_cons_succ]
  refine wpF_one 14 (by simp only [List.getElem?_toArray, List.getElem?_cons_succ, List.getElem?_cons_zero]; exact rfl) (by kernel_rfl) (fun K hK => ?_)
  refine step_append rfl (.tmp 39) (.tmp 47) rfl et27 (by simp [Act.eval]) (by simp [Act.eval]) (h3'.out.drew.alloc (.cells #[] 5)) (h3'.out.drew.lit #[] 0 (by simp [maxLen]) rfl) hcont.out hu1.out (by omega) (by omega) ?_
  intro A4 c4 w4 S4 h5 h6
  simp only [Nat.zero_add, List.nil_append] at h6 ⊢
  refine hK _ _ ?_ (fun hHeld => ?_)
  · exact ⟨h5.cellAt 1 0 0 rfl rfl rfl, h5.cellAt 2 0 _ rfl rfl hcur1.out⟩
  clear hK K
  try simp only [Act.put, List.setIfInBounds_toArray, List.set_cons_zero, List.set_cons_succ]
  refine wpF_one 16 (by simp only [List.getElem?_toArray, List.getElem?_cons_succ, List.getElem?_cons_zero]; exact rfl) (by kernel_rfl) (fun K hK => ?_)
  refine step_append rfl (.tmp 48) (.tmp 49) rfl et27 (by simp [Act.eval]) (by simp [Act.eval]) h5 h6 (hvb.out S4) hu2.out (by omega) (by omega) ?_
  intro A5 c5 w5 S5 h7 h8
  have hb5 := h7.ltAt 1 0 rfl rfl
  refine hK _ _ ?_ (fun hHeld => ?_)
  · exact ⟨h7.cellAt 1 0 0 rfl rfl rfl, h7.cellAt 2 0 _ rfl rfl hcur1.out⟩
  clear hK K
  try simp only [Act.put, List.setIfInBounds_toArray, List.set_cons_zero, List.set_cons_succ]
  refine wpF_one 17 (by simp only [List.getElem?_toArray, List.getElem?_cons_succ, List.getElem?_cons_zero]; exact rfl) (by kernel_rfl) (fun K hK => ?_)
  go_simp
  refine hK _ _ ?_ (fun hHeld => ?_)
  · exact hHeld
  clear hK K
  try simp only [Act.put, List.setIfInBounds_toArray, List.set_cons_zero, List.set_cons_succ]
  refine wpF_take 18 (v := ?_) hHeld (by simp only [List.getElem?_toArray, List.getElem?_cons_succ, List.getElem?_cons_zero]; exact rfl) (by kernel_rfl) (by exact fun _ _ _ h => h) (by rfl) ?_ ?_
  rotate_left
  · (intro w hSw; (try dsimp only at hSw); go_simp; try with_reducible rfl)
  try simp only [Act.put, List.setIfInBounds_toArray, List.set_cons_zero, List.set_cons_succ]
  refine wpF_last 19 (by simp only [List.getElem?_toArray, List.getElem?_cons_succ, List.getElem?_cons_zero]; exact rfl) (by kernel_rfl) (by decide) (fun K hK => ?_)
  have g1 : w5.cell? ⟨g2, k * 3 + 1, none⟩ = some (.slice Av dl cv) := h7.cellAt 2 0 _ rfl rfl hcur1.out
  have g2f : w5.frozen? ⟨g2, k * 3 + 1, none⟩ = false := h7.freeAt 2 0 _ rfl rfl
  go_simp
  refine hK _ _ ?_
  clear hK K
  try simp only [Act.put, List.setIfInBounds_toArray, List.set_cons_zero, List.set_cons_succ]
  refine wpF_done (by kernel_rfl) ?_
--END 9
  have hf := (h7.pick 2 rfl).setCell (k * 3 + 1) (.slice A5 (dl + bs.length) c5)
  have hf2 := Lib.hid (show H W (w5.setCell ⟨g2, k * 3 + 1, none⟩ (.slice A5 (dl + bs.length) c5)) (rhdr b d (.slice (some ⟨g2, 0, none⟩) N c2) :: [(g2, .cells (cur2.setIfInBounds (k * 3 + 1) (.slice A5 (dl + bs.length) c5)) 89 (0, 0))] :: S5 :: SL :: rdatas rs :: L) from
    (show H W _ ([(g2, .cells (cur2.setIfInBounds (k * 3 + 1) (.slice A5 (dl + bs.length) c5)) 89 (0, 0))] :: S5 :: rhdr b d (.slice (some ⟨g2, 0, none⟩) N c2) :: SL :: rdatas rs :: L) from hf).pick 2 rfl)
  have hrow2 := Lib.hid (own_set (rs := rs) (r' := ⟨{ rk.a with data := dt ++ bs }, .slice A5 (dl + bs.length) c5, S5⟩) h3x.out hkr'.out (j := 1) (u := .slice A5 (dl + bs.length) c5) (by decide) (by rw [hcells.out]; show [_, _, _] = _; rw [hdu'.out]; rfl))
  have h8' := Lib.hid h8
  clear h7 h8 hf h5 h6
  have hfl := rfails hf2.out hlX
  cases hwv : d.writes with
  | true =>
    rw [hwv] at hfl
    go_wp2_with (go_at_call 65; refine hfl.mono ?_; rintro e w6 ⟨rfl, h9⟩)
    go_ret
    refine ⟨by unfold AD.appE; rw [if_pos hoe'.out, hwv]; rfl, ?_⟩
    rw [happ]
    refine rdisk_set (d2 := ({ d with fs := updL n (fun f => { f with data := f.data ++ bs }) d.fs } : AD).wrote) (r' := ⟨{ rk.a with data := dt ++ bs }, .slice A5 (dl + bs.length) c5, S5⟩) hKX.out hkr'.out (by rw [hN'.out]; exact hrow2.out) ⟨?_, ?_, ?_⟩ ?_ (wrote_left hlX) ?_
    · have h10 := h8'.out
      have hdl2 : dt.length = dl := by rw [← hdt'.out]; exact hdl'.out
      rw [show u8s dt ++ u8s bs = u8s (dt ++ bs) by simp [u8s], ← hdl2, ← List.length_append] at h10
      rw [← hdl2, ← List.length_append]
      exact h10
    · have hdl2 : dt.length = dl := by rw [← hdt'.out]; exact hdl'.out
      simp only [List.length_append, hdl2]; omega
    · have h11 := hok'.out.2.2
      rw [hdt'.out] at h11
      simp only [List.length_append]; omega
    · rw [wrote_fs]
      show updL _ _ _ = _
      rw [hupd'.out, hdt'.out]
    · rw [rhdr_wrote]
      have h12 := (show H W w6 (rhdr b d.wrote (.slice (some ⟨g2, 0, none⟩) N c2) :: [(g2, .cells (cur2.setIfInBounds (k * 3 + 1) (.slice A5 (dl + bs.length) c5)) 89 (0, 0))] :: S5 :: SL :: rdatas rs :: L) from h9).pick 3 rfl |>.drop
      exact (show H W w6 (rhdr b d.wrote (.slice (some ⟨g2, 0, none⟩) N c2) :: [(g2, .cells (cur2.setIfInBounds (k * 3 + 1) (.slice A5 (dl + bs.length) c5)) 89 (0, 0))] :: S5 :: rdatas rs :: L) from h12).pick 2 rfl
  | false =>
    rw [hwv] at hfl
    go_wp2_with (go_at_call 65; refine hfl.mono ?_; rintro e w6 ⟨rfl, h9⟩)
    go_ret
    refine ⟨by unfold AD.appE; rw [if_pos hoe'.out, hwv]; rfl, ?_⟩
    rw [happ]
    refine rdisk_set (d2 := ({ d with fs := updL n (fun f => { f with data := f.data ++ bs }) d.fs } : AD).wrote) (r' := ⟨{ rk.a with data := dt ++ bs }, .slice A5 (dl + bs.length) c5, S5⟩) hKX.out hkr'.out (by rw [hN'.out]; exact hrow2.out) ⟨?_, ?_, ?_⟩ ?_ (wrote_left hlX) ?_
    · have h10 := h8'.out
      have hdl2 : dt.length = dl := by rw [← hdt'.out]; exact hdl'.out
      rw [show u8s dt ++ u8s bs = u8s (dt ++ bs) by simp [u8s], ← hdl2, ← List.length_append] at h10
      rw [← hdl2, ← List.length_append]
      exact h10
    · have hdl2 : dt.length = dl := by rw [← hdt'.out]; exact hdl'.out
      simp only [List.length_append, hdl2]; omega
    · have h11 := hok'.out.2.2
      rw [hdt'.out] at h11
      simp only [List.length_append]; omega
    · rw [wrote_fs]
      show updL _ _ _ = _
      rw [hupd'.out, hdt'.out]
    · rw [rhdr_wrote]
      have h12 := (show H W w6 (rhdr b d.wrote (.slice (some ⟨g2, 0, none⟩) N c2) :: [(g2, .cells (cur2.setIfInBounds (k * 3 + 1) (.slice A5 (dl + bs.length) c5)) 89 (0, 0))] :: S5 :: SL :: rdatas rs :: L) from h9).pick 3 rfl |>.drop
      exact (show H W w6 (rhdr b d.wrote (.slice (some ⟨g2, 0, none⟩) N c2) :: [(g2, .cells (cur2.setIfInBounds (k * 3 + 1) (.slice A5 (dl + bs.length) c5)) 89 (0, 0))] :: S5 :: rdatas rs :: L) from h12).pick 2 rfl

end Go.Proofs.Ytfhoblchgeijkaa
