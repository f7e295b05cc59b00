import Derived.Test.YtfhoblchgeijkaaRf
namespace Go.Proofs.Ytfhoblchgeijkaa
open Go.RowKit Go.Maps
variable {W w : World} {L T : List Seg} {v : Value} {l n bs : Bs} {b : Nat} {d : AD} {S : Seg}

theorem updL_set (g : AF → AF) : ∀ (fs : List AF) (k : Nat) (hk : k < fs.length), fs[k].name = n → (∀ j (hj : j < fs.length), j < k → fs[j].name ≠ n) → updL n g fs = fs.set k (g fs[k])
  | [], k, hk, _, _ => by simp at hk
  | f :: r, 0, _, h1, _ => by
    simp only [List.getElem_cons_zero] at h1
    simp [updL, h1]
  | f :: r, k + 1, hk, h1, h2 => by
    have h0 := h2 0 (by simp) (by omega)
    simp only [List.getElem_cons_zero] at h0
    have : (f.name == n) = false := by simpa using h0
    simp only [updL, this, Bool.false_eq_true, if_false, List.set_cons_succ, List.getElem_cons_succ]
    rw [updL_set g r k (by simpa using hk) (by simpa using h1) (fun j hj hjk => by have := h2 (j + 1) (by simp; exact hj) (by omega); simpa using this)]

theorem flat_set (rs : List RF) (k j : Nat) (r' : RF) (hk : k < rs.length) (hj : j < 3) (u : Value) (hc : r'.cells = (rs[k].cells).set j u) : (rs.set k r').flatMap RF.cells = (rs.flatMap RF.cells).set (k * 3 + j) u := by
  induction rs generalizing k with
  | nil => simp at hk
  | cons r rs ih =>
    cases k with
    | zero =>
      simp only [List.getElem_cons_zero] at hc
      simp only [List.set_cons_zero, List.flatMap_cons, Nat.zero_mul, Nat.zero_add, hc]
      rw [List.set_append_left _ _ (by simp [RF.cells]; omega)]
    | succ k =>
      simp only [List.getElem_cons_succ] at hc
      simp only [List.set_cons_succ, List.flatMap_cons]
      rw [ih k (by simpa using hk) hc, List.set_append_right _ _ (by simp [RF.cells]; omega)]
      congr 2
      have : (RF.cells r).length = 3 := rfl
      omega

theorem own_set {rs : List RF} {r' : RF} {g N cap k j : Nat} {cur : Array Value} {u : Value} (h : OwnS 89 3 (.slice (some ⟨g, 0, none⟩) N cap) N (rs.flatMap RF.cells) [(g, .cells cur 89 (0, 0))]) (hk : k < rs.length) (hj : j < 3) (hc : r'.cells = (rs[k].cells).set j u) :
    OwnS 89 3 (.slice (some ⟨g, 0, none⟩) N cap) N ((rs.set k r').flatMap RF.cells) [(g, .cells (cur.setIfInBounds (k * 3 + j) u) 89 (0, 0))] := by
  rw [flat_set rs k j r' hk hj u hc]
  refine ⟨by rw [List.length_set]; exact h.1, ?_⟩
  rcases h.2 with ⟨h1, _⟩ | ⟨g', cap', cur', h1, h2, h3, h4, h5, h6⟩
  · simp at h1
  · simp only [Value.slice.injEq, Option.some.injEq, Addr.mk.injEq] at h1
    obtain ⟨⟨rfl, _⟩, _, rfl⟩ := h1
    simp only [List.cons.injEq, Prod.mk.injEq, Obj.cells.injEq] at h2
    obtain ⟨⟨_, rfl, _⟩, _⟩ := h2
    refine .inr ⟨g, cap, _, rfl, rfl, h3, h4, by simpa using h5, ?_⟩
    rw [Array.toList_setIfInBounds, List.take_set, h6]

theorem rdatas_set (rs : List RF) (k : Nat) (r' : RF) (hk : k < rs.length) : rdatas (rs.set k r') = rdatas (rs.take k) ++ (r'.S ++ rdatas (rs.drop (k + 1))) := by
  rw [List.set_eq_take_append_cons_drop, if_pos hk]
  simp [rdatas]

/-- One file was changed, its bytes lie where they lay. -/
theorem rdisk_dur {d2 : AD} {lv0 lv : Value} {SL0 SL : Seg} {rs : List RF} {r' : RF} {k : Nat} (hk : ROk d lv0 SL0 rs) (hkr : k < rs.length) (hS : r'.S = rs[k].S)
    (hrow : OwnS 89 3 lv rs.length ((rs.set k r').flatMap RF.cells) SL) (hok : r'.ok) (hfs : d2.fs = d.fs.set k r'.a) (hl : d2.left < 9223372036854775808)
    (h : H W w (rhdr b d2 lv :: SL :: rdatas rs :: L)) : RDisk W w L b d2 := by
  refine ⟨lv, SL, rs.set k r', ?_, by rw [List.length_set]; exact hrow, ?_, ?_, hl, by rw [List.length_set]; exact hk.le⟩
  · rw [rdatas_set rs k r' hkr, hS, ← rdatas_mid rs k hkr]; exact h
  · intro q hq
    rcases List.mem_or_eq_of_mem_set hq with hq | rfl
    · exact hk.each q hq
    · exact hok
  · rw [List.map_set, hk.fs, hfs]

/-- One file was changed, its bytes lie in a new row. -/
theorem rdisk_set {d2 : AD} {lv0 lv : Value} {SL0 SL : Seg} {rs : List RF} {r' : RF} {k : Nat} (hk : ROk d lv0 SL0 rs) (hkr : k < rs.length)
    (hrow : OwnS 89 3 lv rs.length ((rs.set k r').flatMap RF.cells) SL) (hok : r'.ok) (hfs : d2.fs = d.fs.set k r'.a) (hl : d2.left < 9223372036854775808)
    (h : H W w (r'.S :: rhdr b d2 lv :: SL :: rdatas rs :: L)) : RDisk W w L b d2 := by
  refine ⟨lv, SL, rs.set k r', ?_, by rw [List.length_set]; exact hrow, ?_, ?_, hl, by rw [List.length_set]; exact hk.le⟩
  · rw [rdatas_set rs k r' hkr]
    rw [rdatas_mid rs k hkr] at h
    have h2 : H W w (r'.S :: rhdr b d2 lv :: SL :: rdatas (rs.take k) :: rs[k].S :: rdatas (rs.drop (k + 1)) :: L) := h.re (by intro c hc h0; simp only [List.flatten_cons, hc]; omega)
    have h3 := (h2.pick 4 rfl).drop
    exact (show H W w (r'.S :: rhdr b d2 lv :: SL :: rdatas (rs.take k) :: rdatas (rs.drop (k + 1)) :: L) from h3).re (by intro c hc h0; simp only [List.flatten_cons, hc]; omega)
  · intro q hq
    rcases List.mem_or_eq_of_mem_set hq with hq | rfl
    · exact hk.each q hq
    · exact hok
  · rw [List.map_set, hk.fs, hfs]

theorem list_full (rs : List RF) : rs.take rs.length = rs := List.take_length

set_option maxRecDepth 100000 in
set_option maxHeartbeats 3200000 in
theorem rsync_good (h : RDisk W w L b d) (hex : d.existE n = 0) (hwv : d.writes = true) :
    Calls Try.prog 51 #[.pointer (some ⟨b, 0, none⟩), .string (bstr n)] w (PErr 0 fun w' => RDisk W w' L b { d.wrote with fs := syncF n d.fs }) := by
  obtain ⟨lv, SL, rs, h, hk⟩ := h
  obtain ⟨h0, h1, _, h2⟩ := existE_zero hex
  obtain ⟨k, hkl, e1, e2, e3, e4⟩ := idx_some h2
  have hkr : k < rs.length := by rw [← hk.fs] at hkl; simpa using hkl
  have hra : d.fs[k] = rs[k].a := by simp [← hk.fs]
  have hfd := rfind (n := n) h hk.row hk.fs hk.le
  rw [e1] at hfd
  have hfl := rfails h hk.left
  rw [hwv] at hfl
  have hok := hk.each _ (List.getElem_mem hkr)
  obtain ⟨Av, cv, hv⟩ := hok.1.form
  obtain ⟨dl, hdl⟩ : ∃ dl, rs[k].a.data.length = dl := ⟨_, rfl⟩
  obtain ⟨du, hdu⟩ : ∃ du, rs[k].a.dur = du := ⟨_, rfl⟩
  have ks := nonempty_bstr h0
  have c3 : w.cell? ⟨b, 3, none⟩ = some (.bool false) := by have := h.cellAt 0 0 3 rfl rfl (v := .bool d.off) rfl; rw [h1] at this; exact this
  have hki : (k : Int) < (rs.length : Int) := by omega
  have hle := hk.le
  obtain ⟨A0, cap0, hlv⟩ := hk.row.form
  have hcells := Lib.hid (show rs[k].cells = [.string (bstr rs[k].a.name), .slice Av dl cv, .int .i64 du] by unfold RF.cells; rw [hv, hdl, hdu])
  have hK := Lib.hid hk
  have hfull := Lib.hid (hk.row.rs [])
  have hone := Lib.hid (cells_one hk.each)
  have hlvS := Lib.hid hlv
  have hfin := Lib.hid (show syncF n d.fs = d.fs.set k { rs[k].a with dur := dl } by
    unfold syncF; rw [updL_set _ d.fs k hkl e3 e4, hra, hdl])
  have hb0 := h.ltAt 0 0 rfl rfl
  rw [hlv] at hfl hfull
  have hokd := Lib.hid hok
  have hvd := Lib.hid hv
  have hdld := Lib.hid hdl
  clear h hk hok hv hdl hdu e2 e3 e4 hra h1 h2 hlv
  go_enter Try.func51, Try.ntmps51
  go_wp2_with (first
    | (go_at_call 54; refine hfd.mono ?_; rintro e w' ⟨rfl, rfl⟩)
    | (go_at_call 65; refine hfl.mono ?_; rintro e w1 ⟨rfl, h1⟩
       have m0 : w1.cell? ⟨b, 0, none⟩ = some (.slice A0 rs.length cap0) := h1.cellAt 0 0 0 rfl rfl rfl
       have mb : b < w1.heap.size := h1.ltAt 0 0 rfl rfl
       have h1' := Lib.hid h1
       clear h1)
    | (at_builtin; refine wpl_append rfl (.tmp 20) (.tmp 24) rfl et41 rfl rfl (h1'.out.alloc (.cells #[] 89)) (h1'.out.lit #[] 0 (by simp [maxLen]) rfl) (hfull.out.up (by simp)) hone.out (by omega) (by omega) ?_; intro A2 c2 w2 S2 h2 h3
       have p1 : w2.cell? ⟨b, 0, none⟩ = some (.slice A0 rs.length cap0) := h2.cellAt 1 0 0 rfl rfl rfl
       have p2 : w2.frozen? ⟨b, 0, none⟩ = false := h2.freeAt 1 0 0 rfl rfl
       have h3x := Lib.hid (show OwnS 89 3 (.slice A2 rs.length c2) rs.length (rs.flatMap RF.cells) S2 by simpa using h3)
       have h2x := Lib.hid h2
       clear h2 h3))
  obtain ⟨g2, c2', cur2, q1, q2, _, _, q5⟩ := rrow h3x.out (by omega)
  obtain ⟨rfl, rfl⟩ : A2 = some ⟨g2, 0, none⟩ ∧ c2 = c2' := by simpa using q1
  subst q2
  have h3' := Lib.hid (show H W (w2.setCell ⟨b, 0, none⟩ (.slice (some ⟨g2, 0, none⟩) rs.length c2)) (rhdr b d.wrote (.slice (some ⟨g2, 0, none⟩) rs.length c2) :: [(g2, .cells cur2 89 (0, 0))] :: SL :: rdatas rs :: L) from
    (h2x.out.pick 1 rfl).setCell 0 (.slice (some ⟨g2, 0, none⟩) rs.length c2))
  have hcur1 := Lib.hid (show cur2[k * 3 + 1]? = some (.slice Av dl cv) by rw [q5 k hkr 1 (by decide), hcells.out]; rfl)
  have hcur2 := Lib.hid (show cur2[k * 3 + 2]? = some (.int .i64 du) by rw [q5 k hkr 2 (by decide), hcells.out]; rfl)
  clear q1 q5 p1 p2 h2x m0
  generalize w2.setCell ⟨b, 0, none⟩ (.slice (some ⟨g2, 0, none⟩) rs.length c2) = w3 at *
  have hnfl : (rs.length : Int) ≤ 1099511627776 := by omega
--REGION 11
  refine wpF_start (S := (fun w' => w'.cell? ⟨b, 0, none⟩ = some (.slice (some ⟨g2, 0, none⟩) rs.length c2) ∧ w'.cell? ⟨g2, k * 3 + 1, none⟩ = some (.slice Av dl cv))) (fins := [16]) (by kernel_rfl) ?_ (fun hHeld => ?_)
  · exact ⟨h3'.out.drew.cellAt 0 0 0 rfl rfl rfl, h3'.out.drew.cellAt 1 0 _ rfl rfl hcur1.out⟩
  refine wpF_take 0 (v := ?_) hHeld (by simp only [List.getElem?_toArray, List.getElem?_cons_zero]; exact rfl) (by kernel_rfl) (by exact fun _ _ _ h => h) (by rfl) ?_ ?_
  rotate_left
  · (intro w hSw; (try dsimp only at hSw); go_simp; try with_reducible rfl)
  try simp only [Act.put, List.setIfInBounds_toArray, List.set_cons_zero, List.set_cons_succ]
  refine wpF_take 1 (v := ?_) hHeld (by simp only [List.getElem?_toArray, List.getElem?_cons_succ, List.getElem?_cons_zero]; exact rfl) (by kernel_rfl) (by exact fun _ _ _ h => h) (by rfl) ?_ ?_
  rotate_left
  · (intro w hSw; (try dsimp only at hSw); go_simp; try with_reducible rfl)
  try simp only [Act.put, List.setIfInBounds_toArray, List.set_cons_zero, List.set_cons_succ]
  refine wpF_take 2 (v := ?_) hHeld (by simp only [List.getElem?_toArray, List.getElem?_cons_succ, List.getElem?_cons_zero]; exact rfl) (by kernel_rfl) (by exact fun _ _ _ h => h) (by rfl) ?_ ?_
  rotate_left
  · (intro w hSw; (try dsimp only at hSw); go_simp; try with_reducible rfl)
  try simp only [Act.put, List.setIfInBounds_toArray, List.set_cons_zero, List.set_cons_succ]
  refine wpF_take 3 (v := ?_) hHeld (by simp only [List.getElem?_toArray, List.getElem?_cons_succ, List.getElem?_cons_zero]; exact rfl) (by kernel_rfl) (by exact fun _ _ _ h => h) (by rfl) ?_ ?_
  rotate_left
  · (intro w hSw; (try dsimp only at hSw); go_simp; try with_reducible rfl)
  try simp only [Act.put, List.setIfInBounds_toArray, List.set_cons_zero, List.set_cons_succ]
  refine wpF_take 4 (v := ?_) hHeld (by simp only [List.getElem?_toArray, List.getElem?_cons_succ, List.getElem?_cons_zero]; exact rfl) (by kernel_rfl) (by exact fun _ _ _ h => h) (by rfl) ?_ ?_
  rotate_left
  · (intro w hSw; (try dsimp only at hSw); go_simp; try with_reducible rfl)
  try simp only [Act.put, List.setIfInBounds_toArray, List.set_cons_zero, List.set_cons_succ]
  refine wpF_take 5 (v := ?_) hHeld (by simp only [List.getElem?_toArray, List.getElem?_cons_succ, List.getElem?_cons_zero]; exact rfl) (by kernel_rfl) (by exact fun _ _ _ h => h) (by rfl) ?_ ?_
  rotate_left
  · (intro w hSw; (try dsimp only at hSw); go_simp; try with_reducible rfl)
  try simp only [Act.put, List.setIfInBounds_toArray, List.set_cons_zero, List.set_cons_succ]
  refine wpF_take 6 (v := ?_) hHeld (by simp only [List.getElem?_toArray, List.getElem?_cons_succ, List.getElem?_cons_zero]; exact rfl) (by kernel_rfl) (by exact fun _ _ _ h => h) (by rfl) ?_ ?_
  rotate_left
  · (intro w hSw; (try dsimp only at hSw); go_simp; try with_reducible rfl)
  try simp only [Act.put, List.setIfInBounds_toArray, List.set_cons_zero, List.set_cons_succ]
  refine wpF_take 7 (v := ?_) hHeld (by simp only [List.getElem?_toArray, List.getElem?_cons_succ, List.getElem?_cons_zero]; exact rfl) (by kernel_rfl) (by exact fun _ _ _ h => h) (by rfl) ?_ ?_
  rotate_left
  · (intro w hSw; (try dsimp only at hSw); go_simp; try with_reducible rfl)
  try simp only [Act.put, List.setIfInBounds_toArray, List.set_cons_zero, List.set_cons_succ]
  refine wpF_take 8 (v := ?_) hHeld (by simp only [List.getElem?_toArray, List.getElem?_cons_succ, List.getElem?_cons_zero]; exact rfl) (by kernel_rfl) (by exact fun _ _ _ h => h) (by rfl) ?_ ?_
  rotate_left
  · (intro w hSw; (try dsimp only at hSw); go_simp; try with_reducible rfl)
  try simp only [Act.put, List.setIfInBounds_toArray, List.set_cons_zero, List.set_cons_succ]
  refine wpF_take 9 (v := ?_) hHeld (by simp only [List.getElem?_toArray, List.getElem?_cons_succ, List.getElem?_cons_zero]; exact rfl) (by kernel_rfl) (by exact fun _ _ _ h => h) (by rfl) ?_ ?_
  rotate_left
  · (intro w hSw; (try dsimp only at hSw); go_simp; try with_reducible rfl)
  try simp only [Act.put, List.setIfInBounds_toArray, List.set_cons_zero, List.set_cons_succ]
  refine wpF_take 10 (v := ?_) hHeld (by simp only [List.getElem?_toArray, List.getElem?_cons_succ, List.getElem?_cons_zero]; exact rfl) (by kernel_rfl) (by exact fun _ _ _ h => h) (by rfl) ?_ ?_
  rotate_left
  · (intro w hSw; (try dsimp only at hSw); go_simp; try with_reducible rfl)
  try simp only [Act.put, List.setIfInBounds_toArray, List.set_cons_zero, List.set_cons_succ]
  refine wpF_take 11 (v := ?_) hHeld (by simp only [List.getElem?_toArray, List.getElem?_cons_succ, List.getElem?_cons_zero]; exact rfl) (by kernel_rfl) (by exact fun _ _ _ h => h) (by rfl) ?_ ?_
  rotate_left
  · (intro w hSw; (try dsimp only at hSw); go_simp; try with_reducible rfl)
  try simp only [Act.put, List.setIfInBounds_toArray, List.set_cons_zero, List.set_cons_succ]
  refine wpF_take 12 (v := ?_) hHeld (by simp only [List.getElem?_toArray, List.getElem?_cons_succ, List.getElem?_cons_zero]; exact rfl) (by kernel_rfl) (by exact fun _ _ _ h => h) (by rfl) ?_ ?_
  rotate_left
  · (intro w hSw; (try dsimp only at hSw); go_simp; try with_reducible rfl)
  try simp only [Act.put, List.setIfInBounds_toArray, List.set_cons_zero, List.set_cons_succ]
  refine wpF_take 13 (v := ?_) hHeld (by simp only [List.getElem?_toArray, List.getElem?_cons_succ, List.getElem?_cons_zero]; exact rfl) (by kernel_rfl) (by exact fun _ _ _ h => h) (by rfl) ?_ ?_
  rotate_left
  · (intro w hSw; (try dsimp only at hSw); go_simp; try with_reducible rfl)
  try simp only [Act.put, List.setIfInBounds_toArray, List.set_cons_zero, List.set_cons_succ]
  refine wpF_one 14 (by simp only [List.getElem?_toArray, List.getElem?_cons_succ, List.getElem?_cons_zero]; exact rfl) (by kernel_rfl) (fun K hK => ?_)
  go_simp
  refine hK _ _ ?_ (fun hHeld => ?_)
  · exact hHeld
  clear hK K
  try simp only [Act.put, List.setIfInBounds_toArray, List.set_cons_zero, List.set_cons_succ]
  refine wpF_take 15 (v := ?_) hHeld (by simp only [List.getElem?_toArray, List.getElem?_cons_succ, List.getElem?_cons_zero]; exact rfl) (by kernel_rfl) (by exact fun _ _ _ h => h) (by rfl) ?_ ?_
  rotate_left
  · (intro w hSw; (try dsimp only at hSw); go_simp; try with_reducible rfl)
  try simp only [Act.put, List.setIfInBounds_toArray, List.set_cons_zero, List.set_cons_succ]
  refine wpF_last 16 (by simp only [List.getElem?_toArray, List.getElem?_cons_succ, List.getElem?_cons_zero]; exact rfl) (by kernel_rfl) (by decide) (fun K hK => ?_)
  have g1 : w3.drew.cell? ⟨g2, k * 3 + 2, none⟩ = some (.int .i64 du) := h3'.out.drew.cellAt 1 0 _ rfl rfl hcur2.out
  have g1b : w3.cell? ⟨g2, k * 3 + 2, none⟩ = some (.int .i64 du) := h3'.out.cellAt 1 0 _ rfl rfl hcur2.out
  have g2f : w3.drew.frozen? ⟨g2, k * 3 + 2, none⟩ = false := h3'.out.drew.freeAt 1 0 _ rfl rfl
  have g2g : w3.frozen? ⟨g2, k * 3 + 2, none⟩ = false := h3'.out.freeAt 1 0 _ rfl rfl
  go_simp
  refine hK _ _ ?_
  clear hK K
  try simp only [Act.put, List.setIfInBounds_toArray, List.set_cons_zero, List.set_cons_succ]
  refine wpF_done (by kernel_rfl) ?_
--END 11
  go_wp2_with fail
  go_ret
  have hf := (h3'.out.drew.pick 1 rfl).setCell (k * 3 + 2) (.int .i64 dl)
  have hrow2 := own_set (r' := ⟨{ rs[k].a with dur := dl }, rs[k].v, rs[k].S⟩) h3x.out hkr (j := 2) (u := .int .i64 dl) (by decide) (by rw [hcells.out]; show [_, _, _] = _; rw [hvd.out, hdld.out]; rfl)
  refine ⟨rfl, ?_⟩
  refine rdisk_dur (r' := ⟨{ rs[k].a with dur := dl }, rs[k].v, rs[k].S⟩) hK.out hkr rfl hrow2 ⟨hokd.out.1, hokd.out.2.1, by show dl ≤ _; rw [hdld.out]; exact Nat.le_refl _⟩ (by rw [hfin.out]) (wrote_left hK.out.left) ?_
  rw [rhdr_fs]
  exact (show H W _ ([(g2, .cells (cur2.setIfInBounds (k * 3 + 2) (.int .i64 dl)) 89 (0, 0))] :: rhdr b d.wrote (.slice (some ⟨g2, 0, none⟩) rs.length c2) :: SL :: rdatas rs :: L) from hf).swap.pick 2 rfl |>.drop
end Go.Proofs.Ytfhoblchgeijkaa
