import Derived.Test.YtfhoblchgeijkaaJE
/-! part Aa -/
set_option linter.unusedVariables false
set_option linter.unusedSimpArgs false
namespace Go.Proofs.Ytfhoblchgeijkaa
open Go.RowKit Go.Maps
variable {W w : World} {L T : List Seg} {S SO SI : Seg} {v : Value} {n l : Bs} {ls : List Bs} {d : AD} {b j : Nat} {a : AJ}

def PRJ (k : Int) (W : World) (L : List Seg) (j b : Nat) (n : Bs) (a : AJ) (d : AD) (e : Ending) (w' : World) : Prop := e = .returned (.int .i64 k) ∧ RJour W w' L j b n a d

theorem RJour.cells (h : RJour W w L j b n a d) : ∃ A c, w.cell? ⟨j, 0, none⟩ = some (.pointer (some ⟨b, 0, none⟩)) ∧ w.cell? ⟨j, 1, none⟩ = some (.string (bstr n)) ∧ w.cell? ⟨j, 2, none⟩ = some (.slice A a.recs.length c) ∧ w.cell? ⟨j, 3, none⟩ = some (.int .i64 a.safe) ∧ w.cell? ⟨j, 4, none⟩ = some (.bool a.dead) := by
  obtain ⟨v, SO, SI, ⟨M, SM, rs, h1, h2⟩, h3, h4⟩ := h
  obtain ⟨A, c, rfl, _⟩ := h3.cap
  exact ⟨A, c, h1.cellAt 3 0 0 rfl rfl rfl, h1.cellAt 3 0 1 rfl rfl rfl, h1.cellAt 3 0 2 rfl rfl rfl, h1.cellAt 3 0 3 rfl rfl rfl, h1.cellAt 3 0 4 rfl rfl rfl⟩

/-- The values of a list of rows are one cell each. -/
theorem OwnS.ones {E : TypeId} {N : Nat} {v : Value} {rs : List RR} (h : ∀ r ∈ rs, r.ok) : ∀ u ∈ rs.map RR.v, u.oneCell' = true := by
  intro u hu
  obtain ⟨r, hr, rfl⟩ := List.mem_map.1 hu
  obtain ⟨A, c, e⟩ := (h r hr).1.form
  rw [e]; rfl
theorem Rows.moreO (h : Rows v ls SO SI) : ∃ xs : List Value, OwnS 27 1 v ls.length xs SO ∧ (∀ u ∈ xs, u.oneCell' = true) ∧ ∀ (v' x : Value) (l : Bs) (SN SO' : Seg), OB x l SN → l.length ≤ 1099511627776 → OwnS 27 1 v' (ls.length + 1) (xs ++ [x]) SO' → Rows v' (ls ++ [l]) SO' (SI ++ SN) := by
  obtain ⟨rs, h1, h2, h3, h4⟩ := h
  refine ⟨rs.map RR.v, h1, OwnS.ones (E := 27) (N := 0) (v := v) h3, fun v' x l SN SO' hx hl ho => ?_⟩
  refine ⟨rs ++ [⟨x, l, SN⟩], ?_, by simp [h2], ?_, by simp [h4]⟩
  · simpa using ho
  · intro r hr
    rcases List.mem_append.1 hr with hr | hr
    · exact h3 r hr
    · simp at hr; subst hr; exact ⟨hx, hl⟩

set_option maxRecDepth 100000 in
set_option maxHeartbeats 6400000 in
theorem rappend_jour {A : Option Addr} {c : Nat} (h : RJour W w L j b n a d) (hr : RS L 1 (.slice A l.length c) l.length (u8s l)) (hn0 : n ≠ []) (hl : l.length ≤ 1099511620000)
    (hroom : d.room (12 + l.length)) (hfl : d.fs.length < 1099511627776) (hN : a.recs.length < 1099511627000) :
    Calls Try.prog 31 #[.pointer (some ⟨j, 0, none⟩), .slice A l.length c] w (PRJ (a.appE d n l) W L j b n (a.app d n l) (a.appD d n l)) := by
  by_cases hbig : 65536 < l.length
  · have e1 : a.appE d n l = 1 := by unfold AJ.appE; rw [if_pos hbig]
    have e2 : a.app d n l = a := by unfold AJ.app; rw [if_pos hbig]
    have e3 : a.appD d n l = d := by unfold AJ.appD; rw [if_pos hbig]
    rw [e1, e2, e3]
    have hbi : (65536 : Int) < (l.length : Int) := by omega
    have h' := Lib.hid h
    clear h hr e1 e2 e3 hbig
    go_enter Try.func31, Try.ntmps31
    go_wp2_with fail
    go_ret
    exact ⟨rfl, h'.out⟩
  by_cases hdead : a.dead = true
  · have e1 : a.appE d n l = 103 := by unfold AJ.appE; rw [if_neg hbig, if_pos hdead]
    have e2 : a.app d n l = a := by unfold AJ.app; rw [if_neg hbig, if_pos hdead]
    have e3 : a.appD d n l = d := by unfold AJ.appD; rw [if_neg hbig, if_pos hdead]
    rw [e1, e2, e3]
    obtain ⟨A1, c1, k0, k1, k2, k3, k4⟩ := h.cells
    rw [hdead] at k4
    have hbi : ¬ (65536 : Int) < (l.length : Int) := by omega
    have h' := Lib.hid h
    clear h hr e1 e2 e3 hbig hdead
    go_enter Try.func31, Try.ntmps31
    go_wp2_with fail
    go_ret
    exact ⟨rfl, h'.out⟩
  obtain ⟨recs, s, dead⟩ := a
  obtain rfl : dead = false := by simpa using hdead
  obtain ⟨y, hy⟩ : ∃ y, y = d.appE n := ⟨_, rfl⟩
  obtain ⟨N, hNd⟩ : ∃ N, N = recs.length := ⟨_, rfl⟩
  have e1 : AJ.appE ⟨recs, s, false⟩ d n l = y := by unfold AJ.appE; rw [if_neg hbig, if_neg (by simp), hy]
  have e2 : AJ.app ⟨recs, s, false⟩ d n l = if y = 0 then ⟨recs ++ [l], s, false⟩ else ⟨recs, s, true⟩ := by unfold AJ.app; rw [if_neg hbig, if_neg (by simp), hy]
  have e3 : AJ.appD ⟨recs, s, false⟩ d n l = d.app n (frameV (UInt64.ofNat N) l) := by unfold AJ.appD; rw [if_neg hbig, if_neg (by simp), hNd]
  rw [e1, e2, e3]
  obtain ⟨v, SO, SI, hD, hro, hb1, hb2⟩ := h
  simp only at hD hro hb1 hb2
  obtain ⟨A1, c1, rfl, hcap⟩ := hro.cap
  rw [← hNd] at hD hro hcap
  have hy2 : y = 0 ∨ y = 103 := by rw [hy]; exact appE_cases hn0
  have hN2 : N < 1099511627000 := by rw [hNd]; exact hN
  have hbi : ¬ (65536 : Int) < (l.length : Int) := by omega
  obtain ⟨M, SM, rs, hM, hk⟩ := hD
  have hM' := Lib.hid hM
  have hk' := Lib.hid hk
  have hro' := Lib.hid hro
  have hr' := Lib.hid hr
  have hy' := Lib.hid hy
  have hNd' := Lib.hid hNd
  have k0 : w.cell? ⟨j, 0, none⟩ = some (.pointer (some ⟨b, 0, none⟩)) := hM.cellAt 3 0 0 rfl rfl rfl
  have k4 : w.cell? ⟨j, 4, none⟩ = some (.bool false) := hM.cellAt 3 0 4 rfl rfl rfl
  clear hM hk hro hr hy hNd hN hb1 hdead e1 e2 e3 hbig
  rcases hy2 with rfl | rfl
  · rw [if_pos rfl]
    obtain ⟨xs, hxs, hones, hsn⟩ := hro'.out.moreO
    rw [← hNd'.out] at hxs hsn
    have hxs' := Lib.hid hxs
    have hsn' := Lib.hid hsn
    have hones' := Lib.hid hones
    clear hxs hsn hones
    go_enter Try.func31, Try.ntmps31
    go_wp2_with fail
    refine wpF_start (S := (fun w' => w'.cell? ⟨j, 0, none⟩ = some (.pointer (some ⟨b, 0, none⟩)) ∧ w'.cell? ⟨j, 1, none⟩ = some (.string (bstr n)) ∧ w'.cell? ⟨j, 2, none⟩ = some (.slice A1 N c1))) (fins := []) (by kernel_rfl) ?_ (fun hHeld => ?_)
    · exact ⟨hM'.out.drew.cellAt 3 0 0 rfl rfl rfl, hM'.out.drew.cellAt 3 0 1 rfl rfl rfl, hM'.out.drew.cellAt 3 0 2 rfl rfl rfl⟩
    refine wpF_take 0 (v := ?_) hHeld (by simp only [List.getElem?_toArray, List.getElem?_cons_zero]; exact rfl) (by kernel_rfl) (by exact fun _ _ _ h => h) (by rfl) ?_ ?_
    rotate_left
    · (intro w hSw; (try dsimp only at hSw); go_simp; try with_reducible rfl)
    try simp only [Act.put, List.setIfInBounds_toArray, List.set_cons_zero, List.set_cons_succ]
    refine wpF_take 1 (v := ?_) hHeld (by simp only [List.getElem?_toArray, List.getElem?_cons_succ, List.getElem?_cons_zero]; exact rfl) (by kernel_rfl) (by exact fun _ _ _ h => h) (by rfl) ?_ ?_
    rotate_left
    · (intro w hSw; (try dsimp only at hSw); go_simp; try with_reducible rfl)
    try simp only [Act.put, List.setIfInBounds_toArray, List.set_cons_zero, List.set_cons_succ]
    refine wpF_take 2 (v := ?_) hHeld (by simp only [List.getElem?_toArray, List.getElem?_cons_succ, List.getElem?_cons_zero]; exact rfl) (by kernel_rfl) (by exact fun _ _ _ h => h) (by rfl) ?_ ?_
    rotate_left
    · (intro w hSw; (try dsimp only at hSw); go_simp; try with_reducible rfl)
    try simp only [Act.put, List.setIfInBounds_toArray, List.set_cons_zero, List.set_cons_succ]
    refine wpF_take 3 (v := ?_) hHeld (by simp only [List.getElem?_toArray, List.getElem?_cons_succ, List.getElem?_cons_zero]; exact rfl) (by kernel_rfl) (by exact fun _ _ _ h => h) (by rfl) ?_ ?_
    rotate_left
    · (intro w hSw; (try dsimp only at hSw); go_simp; try with_reducible rfl)
    try simp only [Act.put, List.setIfInBounds_toArray, List.set_cons_zero, List.set_cons_succ]
    refine wpF_take 4 (v := ?_) hHeld (by simp only [List.getElem?_toArray, List.getElem?_cons_succ, List.getElem?_cons_zero]; exact rfl) (by kernel_rfl) (by exact fun _ _ _ h => h) (by rfl) ?_ ?_
    rotate_left
    · (intro w hSw; (try dsimp only at hSw); go_simp; try with_reducible rfl)
    try simp only [Act.put, List.setIfInBounds_toArray, List.set_cons_zero, List.set_cons_succ]
    refine wpF_take 5 (v := ?_) hHeld (by simp only [List.getElem?_toArray, List.getElem?_cons_succ, List.getElem?_cons_zero]; exact rfl) (by kernel_rfl) (by exact fun _ _ _ h => h) (by rfl) ?_ ?_
    rotate_left
    · (intro w hSw; (try dsimp only at hSw); go_simp; try with_reducible rfl)
    try simp only [Act.put, List.setIfInBounds_toArray, List.set_cons_zero, List.set_cons_succ]
    refine wpF_take 6 (v := ?_) hHeld (by simp only [List.getElem?_toArray, List.getElem?_cons_succ, List.getElem?_cons_zero]; exact rfl) (by kernel_rfl) (by exact fun _ _ _ h => h) (by rfl) ?_ ?_
    rotate_left
    · (intro w hSw; (try dsimp only at hSw); go_simp; try with_reducible rfl)
    try simp only [Act.put, List.setIfInBounds_toArray, List.set_cons_zero, List.set_cons_succ]
    refine wpF_take 7 (v := ?_) hHeld (by simp only [List.getElem?_toArray, List.getElem?_cons_succ, List.getElem?_cons_zero]; exact rfl) (by kernel_rfl) (by exact fun _ _ _ h => h) (by rfl) ?_ ?_
    rotate_left
    · (intro w hSw; (try dsimp only at hSw); go_simp; try with_reducible rfl)
    try simp only [Act.put, List.setIfInBounds_toArray, List.set_cons_zero, List.set_cons_succ]
    refine wpF_take 8 (v := ?_) hHeld (by simp only [List.getElem?_toArray, List.getElem?_cons_succ, List.getElem?_cons_zero]; exact rfl) (by kernel_rfl) (by exact fun _ _ _ h => h) (by rfl) ?_ ?_
    rotate_left
    · (intro w hSw; (try dsimp only at hSw); go_simp; try with_reducible rfl)
    try simp only [Act.put, List.setIfInBounds_toArray, List.set_cons_zero, List.set_cons_succ]
    refine wpF_take 9 (v := ?_) hHeld (by simp only [List.getElem?_toArray, List.getElem?_cons_succ, List.getElem?_cons_zero]; exact rfl) (by kernel_rfl) (by exact fun _ _ _ h => h) (by rfl) ?_ ?_
    rotate_left
    · (intro w hSw; (try dsimp only at hSw); go_simp; try with_reducible rfl)
    try simp only [Act.put, List.setIfInBounds_toArray, List.set_cons_zero, List.set_cons_succ]
    refine wpF_take 10 (v := ?_) hHeld (by simp only [List.getElem?_toArray, List.getElem?_cons_succ, List.getElem?_cons_zero]; exact rfl) (by kernel_rfl) (by exact fun _ _ _ h => h) (by rfl) ?_ ?_
    rotate_left
    · (intro w hSw; (try dsimp only at hSw); go_simp; try with_reducible rfl)
    try simp only [Act.put, List.setIfInBounds_toArray, List.set_cons_zero, List.set_cons_succ]
    refine wpF_take 11 (v := ?_) hHeld (by simp only [List.getElem?_toArray, List.getElem?_cons_succ, List.getElem?_cons_zero]; exact rfl) (by kernel_rfl) (by exact fun _ _ _ h => h) (by rfl) ?_ ?_
    rotate_left
    · (intro w hSw; (try dsimp only at hSw); go_simp; try with_reducible rfl)
    try simp only [Act.put, List.setIfInBounds_toArray, List.set_cons_zero, List.set_cons_succ]
    refine wpF_take 12 (v := ?_) hHeld (by simp only [List.getElem?_toArray, List.getElem?_cons_succ, List.getElem?_cons_zero]; exact rfl) (by kernel_rfl) (by exact fun _ _ _ h => h) (by rfl) ?_ ?_
    rotate_left
    · (intro w hSw; (try dsimp only at hSw); go_simp; try with_reducible rfl)
    try simp only [Act.put, List.setIfInBounds_toArray, List.set_cons_zero, List.set_cons_succ]
    refine wpF_take 13 (v := ?_) hHeld (by simp only [List.getElem?_toArray, List.getElem?_cons_succ, List.getElem?_cons_zero]; exact rfl) (by kernel_rfl) (by exact fun _ _ _ h => h) (by rfl) ?_ ?_
    rotate_left
    · (intro w hSw; (try dsimp only at hSw); go_simp; try with_reducible rfl)
    try simp only [Act.put, List.setIfInBounds_toArray, List.set_cons_zero, List.set_cons_succ]
    refine wpF_one 14 (by simp only [List.getElem?_toArray, List.getElem?_cons_succ, List.getElem?_cons_zero]; exact rfl) (by kernel_rfl) (fun K hK => ?_)
    go_simp
    refine (frame_refN N hM'.out.drew ((((((hr'.out.cons _).cons _).cons _).cons _).cons _).cons _) (by omega) (by omega)).mono ?_
    rintro e w5 ⟨A5, c5, S5, rfl, h5, o5⟩
    refine hK _ _ ?_ (fun hHeld => ?_)
    · exact ⟨h5.cellAt 4 0 0 rfl rfl rfl, h5.cellAt 4 0 1 rfl rfl rfl, h5.cellAt 4 0 2 rfl rfl rfl⟩
    clear hK K
    try simp only [Act.put, List.setIfInBounds_toArray, List.set_cons_zero, List.set_cons_succ]
    refine wpF_one 15 (by simp only [List.getElem?_toArray, List.getElem?_cons_succ, List.getElem?_cons_zero]; exact rfl) (by kernel_rfl) (fun K hK => ?_)
    go_simp
    refine (rapp_disk (n := n) (show RDisk W w5 (S5 :: jhdr 65 j b n (.slice A1 N c1) s false :: SO :: SI :: L) b d from ⟨M, SM, rs, h5.re (by intro c hc h0; simp only [List.flatten_cons, hc]; omega), hk'.out⟩) (RL_of (o5.rs _) (by rw [frameV_len]; omega)) (by rw [frameV_len]; omega) (by rw [frameV_len]; exact hroom) hfl).mono ?_
    rw [← hy'.out]
    rintro e w6 ⟨rfl, M6, SM6, rs6, h6, k6⟩
    refine hK _ _ ?_ (fun hHeld => ?_)
    · exact ⟨h6.cellAt 4 0 0 rfl rfl rfl, h6.cellAt 4 0 1 rfl rfl rfl, h6.cellAt 4 0 2 rfl rfl rfl⟩
    clear hK K
    try simp only [Act.put, List.setIfInBounds_toArray, List.set_cons_zero, List.set_cons_succ]
    refine wpF_take 16 (v := ?_) hHeld (by simp only [List.getElem?_toArray, List.getElem?_cons_succ, List.getElem?_cons_zero]; exact rfl) (by kernel_rfl) (by exact fun _ _ _ h => h) (by rfl) ?_ ?_
    rotate_left
    · (intro w hSw; (try dsimp only at hSw); go_simp; try with_reducible rfl)
    try simp only [Act.put, List.setIfInBounds_toArray, List.set_cons_zero, List.set_cons_succ]
    refine wpF_done (by kernel_rfl) ?_
    have h6j := Lib.hid (show H W w6 (jhdr 65 j b n (.slice A1 N c1) s false :: rhdr b (d.app n (frameV (UInt64.ofNat N) l)) M6 :: SM6 :: rdatas rs6 :: S5 :: SO :: SI :: L) from h6.pick 4 rfl)
    have g2 : w6.cell? ⟨j, 2, none⟩ = some (.slice A1 N c1) := h6j.out.cellAt 0 0 2 rfl rfl rfl
    have hjlt := h6j.out.ltAt 0 0 rfl rfl
    clear h6 h5 o5 hHeld
    go_wp2_with (at_builtin; refine stp ?_)
    unfold Stp
    refine wpl_append (m := N) (news := xs) rfl (.tmp 36) (.tmp 40) rfl et22 rfl rfl (h6j.out.alloc _) (h6j.out.lit (E := 27) (size := 1) #[] 0 (by simp [maxLen]) rfl)
      ((((((((hxs'.out.rs (SI :: L)).cons S5).cons (rdatas rs6)).cons SM6).cons _).cons _).cons _)) hones'.out (by omega) (by omega) ?_
    intro A7 c7 w7 S7 h7 o7
    simp only [Nat.zero_add, List.nil_append] at o7
    have h7' := Lib.hid h7
    have o7' := Lib.hid o7
    clear h7 o7 g2 h6j
    go_wp2_with (at_builtin; refine stp ?_)
    unfold Stp
    refine wpl_append (m := l.length) (news := u8s l) rfl (.tmp 42) (.tmp 43) rfl et27 rfl rfl (h7'.out.alloc _) (h7'.out.lit (E := 5) (size := 1) #[] 0 (by simp [maxLen]) rfl)
      (((((((((hr'.out.cons SI).cons SO).cons S5).cons (rdatas rs6)).cons SM6).cons _).cons _).cons _).cons _) (u8s_one l) (by omega) (by omega) ?_
    intro A8 c8 w8 S8 h8 o8
    simp only [Nat.zero_add, List.nil_append] at o8
    have h8' := Lib.hid h8
    have o8' := Lib.hid o8
    clear h8 o8 h7'
    go_wp2_with (at_builtin; refine stp ?_)
    unfold Stp
    refine wpl_append (m := 1) (news := [.slice A8 l.length c8]) rfl (.tmp 41) (.tmp 45) rfl et22 rfl rfl ((h8'.out.alloc _).pick 2 rfl) o7'.out
      ((h8'.out.lit (E := 27) (size := 1) #[.slice A8 l.length c8] 1 (by simp [maxLen]) rfl).rs (S7 :: S8 :: _) |>.mono mem_to2) (by intro u hu; simp at hu; subst hu; rfl) (by omega) (by omega) ?_
    intro A9 c9 w9 S9 h9 o9
    have h9' := Lib.hid (show H W w9 (S9 :: _ :: S8 :: jhdr 65 j b n (.slice A1 N c1) s false :: rhdr b (d.app n (frameV (UInt64.ofNat N) l)) M6 :: SM6 :: rdatas rs6 :: S5 :: SO :: SI :: L) from h9)
    have hro9 := Lib.hid (hsn'.out _ _ l S8 S9 o8'.out (by omega) o9)
    have g2 : w9.cell? ⟨j, 2, none⟩ = some (.slice A1 N c1) := h9'.out.cellAt 3 0 2 rfl rfl rfl
    have g2f : w9.frozen? ⟨j, 2, none⟩ = false := h9'.out.freeAt 3 0 2 rfl rfl
    clear h9 o9 h8' o8' o7'
    go_wp2_with fail
    go_ret
    have hf := ((show H W w9 ([(j, .cells #[.pointer (some ⟨b, 0, none⟩), .string (bstr n), .slice A1 N c1, .int .i64 s, .bool false] 65 (0, 0))] :: _) from h9'.out.pick 3 rfl).setCell 2 (.slice A9 (N + 1) c9))
    have hfin := (show H W (w9.setCell ⟨j, 2, none⟩ (.slice A9 (N + 1) c9)) (jhdr 65 j b n (.slice A9 (N + 1) c9) s false :: S9 :: _ :: S8 :: rhdr b (d.app n (frameV (UInt64.ofNat N) l)) M6 :: SM6 :: rdatas rs6 :: S5 :: SO :: SI :: L) from hf)
    refine ⟨rfl, .slice A9 (N + 1) c9, S9, SI ++ S8, ⟨M6, SM6, rs6, ?_, k6⟩, hro9.out, by simp only [List.length_append, List.length_singleton]; rw [← hNd'.out]; omega, hb2⟩
    exact ((show H W _ (SO :: jhdr 65 j b n (.slice A9 (N + 1) c9) s false :: S9 :: S8 :: rhdr b (d.app n (frameV (UInt64.ofNat N) l)) M6 :: SM6 :: rdatas rs6 :: SI :: L) from (((hfin.pick 2 rfl).drop.pick 6 rfl).drop.pick 6 rfl)).drop).re (by intro c hc h0; simp only [List.flatten_cons, hc]; omega)
  · rw [if_neg (by decide)]
    go_enter Try.func31, Try.ntmps31
    go_wp2_with fail
    refine wpF_start (S := (fun w' => w'.cell? ⟨j, 0, none⟩ = some (.pointer (some ⟨b, 0, none⟩)) ∧ w'.cell? ⟨j, 1, none⟩ = some (.string (bstr n)) ∧ w'.cell? ⟨j, 2, none⟩ = some (.slice A1 N c1))) (fins := []) (by kernel_rfl) ?_ (fun hHeld => ?_)
    · exact ⟨hM'.out.drew.cellAt 3 0 0 rfl rfl rfl, hM'.out.drew.cellAt 3 0 1 rfl rfl rfl, hM'.out.drew.cellAt 3 0 2 rfl rfl rfl⟩
    refine wpF_take 0 (v := ?_) hHeld (by simp only [List.getElem?_toArray, List.getElem?_cons_zero]; exact rfl) (by kernel_rfl) (by exact fun _ _ _ h => h) (by rfl) ?_ ?_
    rotate_left
    · (intro w hSw; (try dsimp only at hSw); go_simp; try with_reducible rfl)
    try simp only [Act.put, List.setIfInBounds_toArray, List.set_cons_zero, List.set_cons_succ]
    refine wpF_take 1 (v := ?_) hHeld (by simp only [List.getElem?_toArray, List.getElem?_cons_succ, List.getElem?_cons_zero]; exact rfl) (by kernel_rfl) (by exact fun _ _ _ h => h) (by rfl) ?_ ?_
    rotate_left
    · (intro w hSw; (try dsimp only at hSw); go_simp; try with_reducible rfl)
    try simp only [Act.put, List.setIfInBounds_toArray, List.set_cons_zero, List.set_cons_succ]
    refine wpF_take 2 (v := ?_) hHeld (by simp only [List.getElem?_toArray, List.getElem?_cons_succ, List.getElem?_cons_zero]; exact rfl) (by kernel_rfl) (by exact fun _ _ _ h => h) (by rfl) ?_ ?_
    rotate_left
    · (intro w hSw; (try dsimp only at hSw); go_simp; try with_reducible rfl)
    try simp only [Act.put, List.setIfInBounds_toArray, List.set_cons_zero, List.set_cons_succ]
    refine wpF_take 3 (v := ?_) hHeld (by simp only [List.getElem?_toArray, List.getElem?_cons_succ, List.getElem?_cons_zero]; exact rfl) (by kernel_rfl) (by exact fun _ _ _ h => h) (by rfl) ?_ ?_
    rotate_left
    · (intro w hSw; (try dsimp only at hSw); go_simp; try with_reducible rfl)
    try simp only [Act.put, List.setIfInBounds_toArray, List.set_cons_zero, List.set_cons_succ]
    refine wpF_take 4 (v := ?_) hHeld (by simp only [List.getElem?_toArray, List.getElem?_cons_succ, List.getElem?_cons_zero]; exact rfl) (by kernel_rfl) (by exact fun _ _ _ h => h) (by rfl) ?_ ?_
    rotate_left
    · (intro w hSw; (try dsimp only at hSw); go_simp; try with_reducible rfl)
    try simp only [Act.put, List.setIfInBounds_toArray, List.set_cons_zero, List.set_cons_succ]
    refine wpF_take 5 (v := ?_) hHeld (by simp only [List.getElem?_toArray, List.getElem?_cons_succ, List.getElem?_cons_zero]; exact rfl) (by kernel_rfl) (by exact fun _ _ _ h => h) (by rfl) ?_ ?_
    rotate_left
    · (intro w hSw; (try dsimp only at hSw); go_simp; try with_reducible rfl)
    try simp only [Act.put, List.setIfInBounds_toArray, List.set_cons_zero, List.set_cons_succ]
    refine wpF_take 6 (v := ?_) hHeld (by simp only [List.getElem?_toArray, List.getElem?_cons_succ, List.getElem?_cons_zero]; exact rfl) (by kernel_rfl) (by exact fun _ _ _ h => h) (by rfl) ?_ ?_
    rotate_left
    · (intro w hSw; (try dsimp only at hSw); go_simp; try with_reducible rfl)
    try simp only [Act.put, List.setIfInBounds_toArray, List.set_cons_zero, List.set_cons_succ]
    refine wpF_take 7 (v := ?_) hHeld (by simp only [List.getElem?_toArray, List.getElem?_cons_succ, List.getElem?_cons_zero]; exact rfl) (by kernel_rfl) (by exact fun _ _ _ h => h) (by rfl) ?_ ?_
    rotate_left
    · (intro w hSw; (try dsimp only at hSw); go_simp; try with_reducible rfl)
    try simp only [Act.put, List.setIfInBounds_toArray, List.set_cons_zero, List.set_cons_succ]
    refine wpF_take 8 (v := ?_) hHeld (by simp only [List.getElem?_toArray, List.getElem?_cons_succ, List.getElem?_cons_zero]; exact rfl) (by kernel_rfl) (by exact fun _ _ _ h => h) (by rfl) ?_ ?_
    rotate_left
    · (intro w hSw; (try dsimp only at hSw); go_simp; try with_reducible rfl)
    try simp only [Act.put, List.setIfInBounds_toArray, List.set_cons_zero, List.set_cons_succ]
    refine wpF_take 9 (v := ?_) hHeld (by simp only [List.getElem?_toArray, List.getElem?_cons_succ, List.getElem?_cons_zero]; exact rfl) (by kernel_rfl) (by exact fun _ _ _ h => h) (by rfl) ?_ ?_
    rotate_left
    · (intro w hSw; (try dsimp only at hSw); go_simp; try with_reducible rfl)
    try simp only [Act.put, List.setIfInBounds_toArray, List.set_cons_zero, List.set_cons_succ]
    refine wpF_take 10 (v := ?_) hHeld (by simp only [List.getElem?_toArray, List.getElem?_cons_succ, List.getElem?_cons_zero]; exact rfl) (by kernel_rfl) (by exact fun _ _ _ h => h) (by rfl) ?_ ?_
    rotate_left
    · (intro w hSw; (try dsimp only at hSw); go_simp; try with_reducible rfl)
    try simp only [Act.put, List.setIfInBounds_toArray, List.set_cons_zero, List.set_cons_succ]
    refine wpF_take 11 (v := ?_) hHeld (by simp only [List.getElem?_toArray, List.getElem?_cons_succ, List.getElem?_cons_zero]; exact rfl) (by kernel_rfl) (by exact fun _ _ _ h => h) (by rfl) ?_ ?_
    rotate_left
    · (intro w hSw; (try dsimp only at hSw); go_simp; try with_reducible rfl)
    try simp only [Act.put, List.setIfInBounds_toArray, List.set_cons_zero, List.set_cons_succ]
    refine wpF_take 12 (v := ?_) hHeld (by simp only [List.getElem?_toArray, List.getElem?_cons_succ, List.getElem?_cons_zero]; exact rfl) (by kernel_rfl) (by exact fun _ _ _ h => h) (by rfl) ?_ ?_
    rotate_left
    · (intro w hSw; (try dsimp only at hSw); go_simp; try with_reducible rfl)
    try simp only [Act.put, List.setIfInBounds_toArray, List.set_cons_zero, List.set_cons_succ]
    refine wpF_take 13 (v := ?_) hHeld (by simp only [List.getElem?_toArray, List.getElem?_cons_succ, List.getElem?_cons_zero]; exact rfl) (by kernel_rfl) (by exact fun _ _ _ h => h) (by rfl) ?_ ?_
    rotate_left
    · (intro w hSw; (try dsimp only at hSw); go_simp; try with_reducible rfl)
    try simp only [Act.put, List.setIfInBounds_toArray, List.set_cons_zero, List.set_cons_succ]
    refine wpF_one 14 (by simp only [List.getElem?_toArray, List.getElem?_cons_succ, List.getElem?_cons_zero]; exact rfl) (by kernel_rfl) (fun K hK => ?_)
    go_simp
    refine (frame_refN N hM'.out.drew ((((((hr'.out.cons _).cons _).cons _).cons _).cons _).cons _) (by omega) (by omega)).mono ?_
    rintro e w5 ⟨A5, c5, S5, rfl, h5, o5⟩
    refine hK _ _ ?_ (fun hHeld => ?_)
    · exact ⟨h5.cellAt 4 0 0 rfl rfl rfl, h5.cellAt 4 0 1 rfl rfl rfl, h5.cellAt 4 0 2 rfl rfl rfl⟩
    clear hK K
    try simp only [Act.put, List.setIfInBounds_toArray, List.set_cons_zero, List.set_cons_succ]
    refine wpF_one 15 (by simp only [List.getElem?_toArray, List.getElem?_cons_succ, List.getElem?_cons_zero]; exact rfl) (by kernel_rfl) (fun K hK => ?_)
    go_simp
    refine (rapp_disk (n := n) (show RDisk W w5 (S5 :: jhdr 65 j b n (.slice A1 N c1) s false :: SO :: SI :: L) b d from ⟨M, SM, rs, h5.re (by intro c hc h0; simp only [List.flatten_cons, hc]; omega), hk'.out⟩) (RL_of (o5.rs _) (by rw [frameV_len]; omega)) (by rw [frameV_len]; omega) (by rw [frameV_len]; exact hroom) hfl).mono ?_
    rw [← hy'.out]
    rintro e w6 ⟨rfl, M6, SM6, rs6, h6, k6⟩
    refine hK _ _ ?_ (fun hHeld => ?_)
    · exact ⟨h6.cellAt 4 0 0 rfl rfl rfl, h6.cellAt 4 0 1 rfl rfl rfl, h6.cellAt 4 0 2 rfl rfl rfl⟩
    clear hK K
    try simp only [Act.put, List.setIfInBounds_toArray, List.set_cons_zero, List.set_cons_succ]
    refine wpF_take 16 (v := ?_) hHeld (by simp only [List.getElem?_toArray, List.getElem?_cons_succ, List.getElem?_cons_zero]; exact rfl) (by kernel_rfl) (by exact fun _ _ _ h => h) (by rfl) ?_ ?_
    rotate_left
    · (intro w hSw; (try dsimp only at hSw); go_simp; try with_reducible rfl)
    try simp only [Act.put, List.setIfInBounds_toArray, List.set_cons_zero, List.set_cons_succ]
    refine wpF_done (by kernel_rfl) ?_
    have h6j := Lib.hid (show H W w6 (jhdr 65 j b n (.slice A1 N c1) s false :: rhdr b (d.app n (frameV (UInt64.ofNat N) l)) M6 :: SM6 :: rdatas rs6 :: S5 :: SO :: SI :: L) from h6.pick 4 rfl)
    have g4 : w6.cell? ⟨j, 4, none⟩ = some (.bool false) := h6j.out.cellAt 0 0 4 rfl rfl rfl
    have g4f : w6.frozen? ⟨j, 4, none⟩ = false := h6j.out.freeAt 0 0 4 rfl rfl
    clear h6 h5 o5 hHeld
    go_wp2_with fail
    go_ret
    have hf := ((show H W w6 ([(j, .cells #[.pointer (some ⟨b, 0, none⟩), .string (bstr n), .slice A1 N c1, .int .i64 s, .bool false] 65 (0, 0))] :: _) from h6j.out).setCell 4 (.bool true))
    have hfin := (show H W _ (jhdr 65 j b n (.slice A1 N c1) s true :: rhdr b (d.app n (frameV (UInt64.ofNat N) l)) M6 :: SM6 :: rdatas rs6 :: S5 :: SO :: SI :: L) from hf)
    refine ⟨rfl, .slice A1 N c1, SO, SI, ⟨M6, SM6, rs6, ?_, k6⟩, hro'.out, by rw [← hNd'.out]; omega, hb2⟩
    exact (hfin.pick 4 rfl).drop.re (by intro c hc h0; simp only [List.flatten_cons, List.eraseIdx, hc]; omega)

set_option maxRecDepth 100000 in
set_option maxHeartbeats 6400000 in
theorem rsync_jour (h : RJour W w L j b n a d) (hn0 : n ≠ []) :
    Calls Try.prog 33 #[.pointer (some ⟨j, 0, none⟩)] w (PRJ (a.syncE d n) W L j b n (a.sync d n) (a.syncD d n)) := by
  by_cases hdead : a.dead = true
  · have e1 : a.syncE d n = 103 := by unfold AJ.syncE; rw [if_pos hdead]
    have e2 : a.sync d n = a := by unfold AJ.sync; rw [if_pos hdead]
    have e3 : a.syncD d n = d := by unfold AJ.syncD; rw [if_pos hdead]
    rw [e1, e2, e3]
    obtain ⟨A1, c1, k0, k1, k2, k3, k4⟩ := h.cells
    rw [hdead] at k4
    have h' := Lib.hid h
    clear h e1 e2 e3 hdead
    go_enter Try.func33, Try.ntmps33
    go_wp2_with fail
    go_ret
    exact ⟨rfl, h'.out⟩
  by_cases hz : a.recs = []
  · have e1 : a.syncE d n = 0 := by unfold AJ.syncE; rw [if_neg hdead, if_pos hz]
    have e2 : a.sync d n = a := by unfold AJ.sync; rw [if_neg hdead, if_pos hz]
    have e3 : a.syncD d n = d := by unfold AJ.syncD; rw [if_neg hdead, if_pos hz]
    rw [e1, e2, e3]
    obtain ⟨A1, c1, k0, k1, k2, k3, k4⟩ := h.cells
    have hd : a.dead = false := by simpa using hdead
    rw [hd] at k4
    rw [show a.recs.length = 0 by rw [hz]; rfl] at k2
    have h' := Lib.hid h
    clear h e1 e2 e3 hdead hz hd
    go_enter Try.func33, Try.ntmps33
    go_wp2_with fail
    go_ret
    exact ⟨rfl, h'.out⟩
  obtain ⟨recs, s, dead⟩ := a
  obtain rfl : dead = false := by simpa using hdead
  obtain ⟨y, hy⟩ : ∃ y, y = d.chgE n := ⟨_, rfl⟩
  obtain ⟨N, hNd⟩ : ∃ N, N = recs.length := ⟨_, rfl⟩
  have e1 : AJ.syncE ⟨recs, s, false⟩ d n = y := by unfold AJ.syncE; rw [if_neg (by simp), if_neg hz, hy]
  have e2 : AJ.sync ⟨recs, s, false⟩ d n = if y = 0 then ⟨recs, N, false⟩ else ⟨recs, s, true⟩ := by unfold AJ.sync; rw [if_neg (by simp), if_neg hz, hy, hNd]
  have e3 : AJ.syncD ⟨recs, s, false⟩ d n = d.chg n (syncF n) := by unfold AJ.syncD; rw [if_neg (by simp), if_neg hz]
  rw [e1, e2, e3]
  obtain ⟨v, SO, SI, hD, hro, hb1, hb2⟩ := h
  simp only at hD hro hb1 hb2 hz
  obtain ⟨A1, c1, rfl, hcap⟩ := hro.cap
  rw [← hNd] at hD hro hcap
  have hy2 : y = 0 ∨ y = 103 ∨ y = 6 := by rw [hy]; exact chgE_cases hn0
  have hN0 : ¬ (N : Int) = 0 := by rw [hNd]; have := List.length_pos_iff.2 hz; omega
  have hN1 : N ≤ 1099511627000 := by rw [hNd]; exact hb1
  obtain ⟨M, SM, rs, hM, hk⟩ := hD
  have hM' := Lib.hid hM
  have hk' := Lib.hid hk
  have hro' := Lib.hid hro
  have hy' := Lib.hid hy
  have hNd' := Lib.hid hNd
  have hb1' := Lib.hid hb1
  have k0 : w.cell? ⟨j, 0, none⟩ = some (.pointer (some ⟨b, 0, none⟩)) := hM.cellAt 3 0 0 rfl rfl rfl
  have k2 : w.cell? ⟨j, 2, none⟩ = some (.slice A1 N c1) := hM.cellAt 3 0 2 rfl rfl rfl
  have k4 : w.cell? ⟨j, 4, none⟩ = some (.bool false) := hM.cellAt 3 0 4 rfl rfl rfl
  clear hM hk hro hy hNd hb1 hdead e1 e2 e3 hz
  rcases hy2 with rfl | hy3
  · rw [if_pos rfl]
    go_enter Try.func33, Try.ntmps33
    go_wp2_with fail
    refine wpF_start (S := (fun w' => w'.cell? ⟨j, 0, none⟩ = some (.pointer (some ⟨b, 0, none⟩)) ∧ w'.cell? ⟨j, 1, none⟩ = some (.string (bstr n)) ∧ w'.cell? ⟨j, 2, none⟩ = some (.slice A1 N c1))) (fins := []) (by kernel_rfl) ?_ (fun hHeld => ?_)
    · exact ⟨hM'.out.drew.cellAt 3 0 0 rfl rfl rfl, hM'.out.drew.cellAt 3 0 1 rfl rfl rfl, hM'.out.drew.cellAt 3 0 2 rfl rfl rfl⟩
    refine wpF_take 0 (v := ?_) hHeld (by simp only [List.getElem?_toArray, List.getElem?_cons_zero]; exact rfl) (by kernel_rfl) (by exact fun _ _ _ h => h) (by rfl) ?_ ?_
    rotate_left
    · (intro w hSw; (try dsimp only at hSw); go_simp; try with_reducible rfl)
    try simp only [Act.put, List.setIfInBounds_toArray, List.set_cons_zero, List.set_cons_succ]
    refine wpF_take 1 (v := ?_) hHeld (by simp only [List.getElem?_toArray, List.getElem?_cons_succ, List.getElem?_cons_zero]; exact rfl) (by kernel_rfl) (by exact fun _ _ _ h => h) (by rfl) ?_ ?_
    rotate_left
    · (intro w hSw; (try dsimp only at hSw); go_simp; try with_reducible rfl)
    try simp only [Act.put, List.setIfInBounds_toArray, List.set_cons_zero, List.set_cons_succ]
    refine wpF_take 2 (v := ?_) hHeld (by simp only [List.getElem?_toArray, List.getElem?_cons_succ, List.getElem?_cons_zero]; exact rfl) (by kernel_rfl) (by exact fun _ _ _ h => h) (by rfl) ?_ ?_
    rotate_left
    · (intro w hSw; (try dsimp only at hSw); go_simp; try with_reducible rfl)
    try simp only [Act.put, List.setIfInBounds_toArray, List.set_cons_zero, List.set_cons_succ]
    refine wpF_take 3 (v := ?_) hHeld (by simp only [List.getElem?_toArray, List.getElem?_cons_succ, List.getElem?_cons_zero]; exact rfl) (by kernel_rfl) (by exact fun _ _ _ h => h) (by rfl) ?_ ?_
    rotate_left
    · (intro w hSw; (try dsimp only at hSw); go_simp; try with_reducible rfl)
    try simp only [Act.put, List.setIfInBounds_toArray, List.set_cons_zero, List.set_cons_succ]
    refine wpF_take 4 (v := ?_) hHeld (by simp only [List.getElem?_toArray, List.getElem?_cons_succ, List.getElem?_cons_zero]; exact rfl) (by kernel_rfl) (by exact fun _ _ _ h => h) (by rfl) ?_ ?_
    rotate_left
    · (intro w hSw; (try dsimp only at hSw); go_simp; try with_reducible rfl)
    try simp only [Act.put, List.setIfInBounds_toArray, List.set_cons_zero, List.set_cons_succ]
    refine wpF_take 5 (v := ?_) hHeld (by simp only [List.getElem?_toArray, List.getElem?_cons_succ, List.getElem?_cons_zero]; exact rfl) (by kernel_rfl) (by exact fun _ _ _ h => h) (by rfl) ?_ ?_
    rotate_left
    · (intro w hSw; (try dsimp only at hSw); go_simp; try with_reducible rfl)
    try simp only [Act.put, List.setIfInBounds_toArray, List.set_cons_zero, List.set_cons_succ]
    refine wpF_take 6 (v := ?_) hHeld (by simp only [List.getElem?_toArray, List.getElem?_cons_succ, List.getElem?_cons_zero]; exact rfl) (by kernel_rfl) (by exact fun _ _ _ h => h) (by rfl) ?_ ?_
    rotate_left
    · (intro w hSw; (try dsimp only at hSw); go_simp; try with_reducible rfl)
    try simp only [Act.put, List.setIfInBounds_toArray, List.set_cons_zero, List.set_cons_succ]
    refine wpF_take 7 (v := ?_) hHeld (by simp only [List.getElem?_toArray, List.getElem?_cons_succ, List.getElem?_cons_zero]; exact rfl) (by kernel_rfl) (by exact fun _ _ _ h => h) (by rfl) ?_ ?_
    rotate_left
    · (intro w hSw; (try dsimp only at hSw); go_simp; try with_reducible rfl)
    try simp only [Act.put, List.setIfInBounds_toArray, List.set_cons_zero, List.set_cons_succ]
    refine wpF_one 8 (by simp only [List.getElem?_toArray, List.getElem?_cons_succ, List.getElem?_cons_zero]; exact rfl) (by kernel_rfl) (fun K hK => ?_)
    go_simp
    refine (rsync_disk (n := n) (show RDisk W w.drew (jhdr 65 j b n (.slice A1 N c1) s false :: SO :: SI :: L) b d from ⟨M, SM, rs, hM'.out.drew, hk'.out⟩)).mono ?_
    rw [← hy'.out]
    rintro e w6 ⟨rfl, M6, SM6, rs6, h6, k6⟩
    refine hK _ _ ?_ (fun hHeld => ?_)
    · exact ⟨h6.cellAt 3 0 0 rfl rfl rfl, h6.cellAt 3 0 1 rfl rfl rfl, h6.cellAt 3 0 2 rfl rfl rfl⟩
    clear hK K
    try simp only [Act.put, List.setIfInBounds_toArray, List.set_cons_zero, List.set_cons_succ]
    refine wpF_take 9 (v := ?_) hHeld (by simp only [List.getElem?_toArray, List.getElem?_cons_succ, List.getElem?_cons_zero]; exact rfl) (by kernel_rfl) (by exact fun _ _ _ h => h) (by rfl) ?_ ?_
    rotate_left
    · (intro w hSw; (try dsimp only at hSw); go_simp; try with_reducible rfl)
    try simp only [Act.put, List.setIfInBounds_toArray, List.set_cons_zero, List.set_cons_succ]
    refine wpF_done (by kernel_rfl) ?_
    have h7' := Lib.hid (show H W w6 (jhdr 65 j b n (.slice A1 N c1) s false :: rhdr b (d.chg n (syncF n)) M6 :: SM6 :: rdatas rs6 :: SO :: SI :: L) from h6.pick 3 rfl)
    have g2 : w6.cell? ⟨j, 2, none⟩ = some (.slice A1 N c1) := h7'.out.cellAt 0 0 2 rfl rfl rfl
    have g3 : w6.cell? ⟨j, 3, none⟩ = some (.int .i64 s) := h7'.out.cellAt 0 0 3 rfl rfl rfl
    have g3f : w6.frozen? ⟨j, 3, none⟩ = false := h7'.out.freeAt 0 0 3 rfl rfl
    clear h6 hHeld k2
    go_wp2_with fail
    go_ret
    have hf := ((show H W w6 ([(j, .cells #[.pointer (some ⟨b, 0, none⟩), .string (bstr n), .slice A1 N c1, .int .i64 s, .bool false] 65 (0, 0))] :: _) from h7'.out).setCell 3 (.int .i64 N))
    refine ⟨rfl, .slice A1 N c1, SO, SI, ⟨M6, SM6, rs6, ?_, k6⟩, hro'.out, hb1'.out, hN1⟩
    exact (show H W _ (jhdr 65 j b n (.slice A1 N c1) N false :: rhdr b (d.chg n (syncF n)) M6 :: SM6 :: rdatas rs6 :: SO :: SI :: L) from hf).re (by intro c hc h0; simp only [List.flatten_cons, hc]; omega)
  · rw [if_neg (by omega)]
    have hyb : (y != 0) = true := by simp; omega
    clear hy3
    go_enter Try.func33, Try.ntmps33
    go_wp2_with fail
    refine wpF_start (S := (fun w' => w'.cell? ⟨j, 0, none⟩ = some (.pointer (some ⟨b, 0, none⟩)) ∧ w'.cell? ⟨j, 1, none⟩ = some (.string (bstr n)) ∧ w'.cell? ⟨j, 2, none⟩ = some (.slice A1 N c1))) (fins := []) (by kernel_rfl) ?_ (fun hHeld => ?_)
    · exact ⟨hM'.out.drew.cellAt 3 0 0 rfl rfl rfl, hM'.out.drew.cellAt 3 0 1 rfl rfl rfl, hM'.out.drew.cellAt 3 0 2 rfl rfl rfl⟩
    refine wpF_take 0 (v := ?_) hHeld (by simp only [List.getElem?_toArray, List.getElem?_cons_zero]; exact rfl) (by kernel_rfl) (by exact fun _ _ _ h => h) (by rfl) ?_ ?_
    rotate_left
    · (intro w hSw; (try dsimp only at hSw); go_simp; try with_reducible rfl)
    try simp only [Act.put, List.setIfInBounds_toArray, List.set_cons_zero, List.set_cons_succ]
    refine wpF_take 1 (v := ?_) hHeld (by simp only [List.getElem?_toArray, List.getElem?_cons_succ, List.getElem?_cons_zero]; exact rfl) (by kernel_rfl) (by exact fun _ _ _ h => h) (by rfl) ?_ ?_
    rotate_left
    · (intro w hSw; (try dsimp only at hSw); go_simp; try with_reducible rfl)
    try simp only [Act.put, List.setIfInBounds_toArray, List.set_cons_zero, List.set_cons_succ]
    refine wpF_take 2 (v := ?_) hHeld (by simp only [List.getElem?_toArray, List.getElem?_cons_succ, List.getElem?_cons_zero]; exact rfl) (by kernel_rfl) (by exact fun _ _ _ h => h) (by rfl) ?_ ?_
    rotate_left
    · (intro w hSw; (try dsimp only at hSw); go_simp; try with_reducible rfl)
    try simp only [Act.put, List.setIfInBounds_toArray, List.set_cons_zero, List.set_cons_succ]
    refine wpF_take 3 (v := ?_) hHeld (by simp only [List.getElem?_toArray, List.getElem?_cons_succ, List.getElem?_cons_zero]; exact rfl) (by kernel_rfl) (by exact fun _ _ _ h => h) (by rfl) ?_ ?_
    rotate_left
    · (intro w hSw; (try dsimp only at hSw); go_simp; try with_reducible rfl)
    try simp only [Act.put, List.setIfInBounds_toArray, List.set_cons_zero, List.set_cons_succ]
    refine wpF_take 4 (v := ?_) hHeld (by simp only [List.getElem?_toArray, List.getElem?_cons_succ, List.getElem?_cons_zero]; exact rfl) (by kernel_rfl) (by exact fun _ _ _ h => h) (by rfl) ?_ ?_
    rotate_left
    · (intro w hSw; (try dsimp only at hSw); go_simp; try with_reducible rfl)
    try simp only [Act.put, List.setIfInBounds_toArray, List.set_cons_zero, List.set_cons_succ]
    refine wpF_take 5 (v := ?_) hHeld (by simp only [List.getElem?_toArray, List.getElem?_cons_succ, List.getElem?_cons_zero]; exact rfl) (by kernel_rfl) (by exact fun _ _ _ h => h) (by rfl) ?_ ?_
    rotate_left
    · (intro w hSw; (try dsimp only at hSw); go_simp; try with_reducible rfl)
    try simp only [Act.put, List.setIfInBounds_toArray, List.set_cons_zero, List.set_cons_succ]
    refine wpF_take 6 (v := ?_) hHeld (by simp only [List.getElem?_toArray, List.getElem?_cons_succ, List.getElem?_cons_zero]; exact rfl) (by kernel_rfl) (by exact fun _ _ _ h => h) (by rfl) ?_ ?_
    rotate_left
    · (intro w hSw; (try dsimp only at hSw); go_simp; try with_reducible rfl)
    try simp only [Act.put, List.setIfInBounds_toArray, List.set_cons_zero, List.set_cons_succ]
    refine wpF_take 7 (v := ?_) hHeld (by simp only [List.getElem?_toArray, List.getElem?_cons_succ, List.getElem?_cons_zero]; exact rfl) (by kernel_rfl) (by exact fun _ _ _ h => h) (by rfl) ?_ ?_
    rotate_left
    · (intro w hSw; (try dsimp only at hSw); go_simp; try with_reducible rfl)
    try simp only [Act.put, List.setIfInBounds_toArray, List.set_cons_zero, List.set_cons_succ]
    refine wpF_one 8 (by simp only [List.getElem?_toArray, List.getElem?_cons_succ, List.getElem?_cons_zero]; exact rfl) (by kernel_rfl) (fun K hK => ?_)
    go_simp
    refine (rsync_disk (n := n) (show RDisk W w.drew (jhdr 65 j b n (.slice A1 N c1) s false :: SO :: SI :: L) b d from ⟨M, SM, rs, hM'.out.drew, hk'.out⟩)).mono ?_
    rw [← hy'.out]
    rintro e w6 ⟨rfl, M6, SM6, rs6, h6, k6⟩
    refine hK _ _ ?_ (fun hHeld => ?_)
    · exact ⟨h6.cellAt 3 0 0 rfl rfl rfl, h6.cellAt 3 0 1 rfl rfl rfl, h6.cellAt 3 0 2 rfl rfl rfl⟩
    clear hK K
    try simp only [Act.put, List.setIfInBounds_toArray, List.set_cons_zero, List.set_cons_succ]
    refine wpF_take 9 (v := ?_) hHeld (by simp only [List.getElem?_toArray, List.getElem?_cons_succ, List.getElem?_cons_zero]; exact rfl) (by kernel_rfl) (by exact fun _ _ _ h => h) (by rfl) ?_ ?_
    rotate_left
    · (intro w hSw; (try dsimp only at hSw); go_simp; try with_reducible rfl)
    try simp only [Act.put, List.setIfInBounds_toArray, List.set_cons_zero, List.set_cons_succ]
    refine wpF_done (by kernel_rfl) ?_
    have h7' := Lib.hid (show H W w6 (jhdr 65 j b n (.slice A1 N c1) s false :: rhdr b (d.chg n (syncF n)) M6 :: SM6 :: rdatas rs6 :: SO :: SI :: L) from h6.pick 3 rfl)
    have g4 : w6.cell? ⟨j, 4, none⟩ = some (.bool false) := h7'.out.cellAt 0 0 4 rfl rfl rfl
    have g4f : w6.frozen? ⟨j, 4, none⟩ = false := h7'.out.freeAt 0 0 4 rfl rfl
    clear h6 hHeld k2
    go_wp2_with fail
    go_ret
    have hf := ((show H W w6 ([(j, .cells #[.pointer (some ⟨b, 0, none⟩), .string (bstr n), .slice A1 N c1, .int .i64 s, .bool false] 65 (0, 0))] :: _) from h7'.out).setCell 4 (.bool true))
    refine ⟨rfl, .slice A1 N c1, SO, SI, ⟨M6, SM6, rs6, ?_, k6⟩, hro'.out, hb1'.out, hb2⟩
    exact (show H W _ (jhdr 65 j b n (.slice A1 N c1) s true :: rhdr b (d.chg n (syncF n)) M6 :: SM6 :: rdatas rs6 :: SO :: SI :: L) from hf).re (by intro c hc h0; simp only [List.flatten_cons, hc]; omega)
end Go.Proofs.Ytfhoblchgeijkaa

/-! part Ab -/
set_option linter.unusedVariables false
set_option linter.unusedSimpArgs false
namespace Go.Proofs.Ytfhoblchgeijkaa
open Go.RowKit Go.Maps
variable {W w : World} {L T : List Seg} {S SO SI : Seg} {v : Value} {n l : Bs} {ls : List Bs} {d d2 d' d2' : AD} {b j k r : Nat} {a a2 a' a2' : AJ}

/-! Both journals over both disks. -/
def TJ (W w : World) (L : List Seg) (j b k r : Nat) (n : Bs) (a : AJ) (d : AD) (a2 : AJ) (d2 : AD) : Prop :=
  ∃ v SO SI v' SO' SI', Two W w (jhdr 99 j b n v a.safe a.dead :: SO :: SI :: jhdr 65 k r n v' a2.safe a2.dead :: SO' :: SI' :: L) b d r d2 ∧ Rows v a.recs SO SI ∧ Rows v' a2.recs SO' SI' ∧
    (a.recs.length ≤ 1099511627000 ∧ a.safe ≤ 1099511627000) ∧ a2.recs.length ≤ 1099511627000 ∧ a2.safe ≤ 1099511627000
/-- The program's journal alone, over both disks. -/
def TN (W w : World) (L : List Seg) (j b r : Nat) (n : Bs) (a : AJ) (d d2 : AD) : Prop :=
  ∃ v SO SI, Two W w (jhdr 99 j b n v a.safe a.dead :: SO :: SI :: L) b d r d2 ∧ Rows v a.recs SO SI ∧ a.recs.length ≤ 1099511627000 ∧ a.safe ≤ 1099511627000

theorem Disk.re {L' : List Seg} (h : Disk W w L b d) (hp : ∀ c : Seg → Nat, (∀ a b, c (a ++ b) = c a + c b) → c [] = 0 → c L.flatten = c L'.flatten) : Disk W w L' b d := by
  obtain ⟨M, SM, rs, h1, h2⟩ := h
  exact ⟨M, SM, rs, h1.re (by intro c hc h0; have := hp c hc h0; simp only [List.flatten_cons, hc]; omega), h2⟩
theorem RDisk.re {L' : List Seg} (h : RDisk W w L b d) (hp : ∀ c : Seg → Nat, (∀ a b, c (a ++ b) = c a + c b) → c [] = 0 → c L.flatten = c L'.flatten) : RDisk W w L' b d := by
  obtain ⟨M, SM, rs, h1, h2⟩ := h
  exact ⟨M, SM, rs, h1.re (by intro c hc h0; have := hp c hc h0; simp only [List.flatten_cons, hc]; omega), h2⟩
theorem Two.re {L' : List Seg} (h : Two W w L b d r d2) (hp : ∀ c : Seg → Nat, (∀ a b, c (a ++ b) = c a + c b) → c [] = 0 → c L.flatten = c L'.flatten) : Two W w L' b d r d2 := by
  obtain ⟨lv, SL, rs, h1, h2⟩ := h
  exact ⟨lv, SL, rs, h1.re (by intro c hc h0; have := hp c hc h0; simp only [List.flatten_cons, hc]; omega), h2⟩
theorem Two.sub {L' : List Seg} (h : Two W w L b d r d2) (hp : L'.flatten.Sublist L.flatten) : Two W w L' b d r d2 := by
  obtain ⟨lv, SL, rs, h1, h2⟩ := h
  refine ⟨lv, SL, rs, h1.mono ?_, h2⟩
  simp only [List.flatten_cons]
  exact ((hp.append_left _).append_left _).append_left _

theorem memb {A : Seg} : ∀ p ∈ L.flatten, p ∈ (A :: L).flatten := by
  intro p hp; simp only [List.flatten_cons, List.mem_append]; exact .inr hp
theorem memb6 {A B C D E F : Seg} : ∀ p ∈ L.flatten, p ∈ (A :: B :: C :: D :: E :: F :: L).flatten := fun p hp => memb p (memb p (memb p (memb p (memb p (memb p hp)))))
theorem memb3 {A B C : Seg} : ∀ p ∈ L.flatten, p ∈ (A :: B :: C :: L).flatten := fun p hp => memb p (memb p (memb p hp))

theorem TJ.prog {f : FuncId} {args : Array Value} {Q : Ending → Prop} (h : TJ W w L j b k r n a d a2 d2)
    (hc : ∀ T, (∀ p ∈ L.flatten, p ∈ T.flatten) → Jour W w T j b n a d → Calls Try.prog f args w fun x w' => Q x ∧ Jour W w' T j b n a' d') :
    Calls Try.prog f args w fun x w' => Q x ∧ TJ W w' L j b k r n a' d' a2 d2 := by
  obtain ⟨v, SO, SI, v', SO', SI', ⟨lv, SL, rs, hD, hok⟩, r1, r2, ⟨b1, b2⟩, b3⟩ := h
  refine (hc (rhdr r d2 lv :: SL :: rdatas rs :: jhdr 65 k r n v' a2.safe a2.dead :: SO' :: SI' :: L) memb6 ⟨v, SO, SI, hD.re (by intro c hc h0; simp only [List.flatten_cons, hc]; omega), r1, b1, b2⟩).mono ?_
  rintro x w' ⟨hx, v1, SO1, SI1, hD1, r1', b1', b2'⟩
  exact ⟨hx, v1, SO1, SI1, v', SO', SI', ⟨lv, SL, rs, hD1.re (by intro c hc h0; simp only [List.flatten_cons, hc]; omega), hok⟩, r1', r2, ⟨b1', b2'⟩, b3⟩
theorem TJ.ref {f : FuncId} {args : Array Value} {Q : Ending → Prop} (h : TJ W w L j b k r n a d a2 d2)
    (hc : ∀ T, (∀ p ∈ L.flatten, p ∈ T.flatten) → RJour W w T k r n a2 d2 → Calls Try.prog f args w fun x w' => Q x ∧ RJour W w' T k r n a2' d2') :
    Calls Try.prog f args w fun x w' => Q x ∧ TJ W w' L j b k r n a d a2' d2' := by
  obtain ⟨v, SO, SI, v', SO', SI', hT, r1, r2, ⟨b1, b2⟩, b3, b4⟩ := h
  obtain ⟨M, SM, fr, hD, hok⟩ := hT.turn
  refine (hc (dhdr b M d :: SM :: frs fr :: jhdr 99 j b n v a.safe a.dead :: SO :: SI :: L) memb6 ⟨v', SO', SI', hD.re (by intro c hc h0; simp only [List.flatten_cons, hc]; omega), r2, b3, b4⟩).mono ?_
  rintro x w' ⟨hx, v1, SO1, SI1, hD1, r1', b1', b2'⟩
  refine ⟨hx, v, SO, SI, v1, SO1, SI1, Two.back (M := M) (SM := SM) (fr := fr) (hD1.re (by intro c hc h0; simp only [List.flatten_cons, hc]; omega)) hok, r1, r1', ⟨b1, b2⟩, b1', b2'⟩
theorem TJ.disk {f : FuncId} {args : Array Value} {Q : Ending → Prop} (h : TJ W w L j b k r n a d a2 d2)
    (hc : ∀ T, (∀ p ∈ L.flatten, p ∈ T.flatten) → Disk W w T b d → Calls Try.prog f args w fun x w' => Q x ∧ Disk W w' T b d') :
    Calls Try.prog f args w fun x w' => Q x ∧ TJ W w' L j b k r n a d' a2 d2 := by
  obtain ⟨v, SO, SI, v', SO', SI', hT, hr⟩ := h
  refine (hT.prog (Q := Q) (d' := d') fun T hs hD => hc T (fun p hp => hs p (memb6 p hp)) hD).mono ?_
  rintro x w' ⟨hx, h1⟩
  exact ⟨hx, v, SO, SI, v', SO', SI', h1, hr⟩
theorem TJ.rdisk {f : FuncId} {args : Array Value} {Q : Ending → Prop} (h : TJ W w L j b k r n a d a2 d2)
    (hc : ∀ T, (∀ p ∈ L.flatten, p ∈ T.flatten) → RDisk W w T r d2 → Calls Try.prog f args w fun x w' => Q x ∧ RDisk W w' T r d2') :
    Calls Try.prog f args w fun x w' => Q x ∧ TJ W w' L j b k r n a d a2 d2' := by
  obtain ⟨v, SO, SI, v', SO', SI', hT, hr⟩ := h
  refine (hT.ref (Q := Q) (e' := d2') fun T hs hD => hc T (fun p hp => hs p (memb6 p hp)) hD).mono ?_
  rintro x w' ⟨hx, h1⟩
  exact ⟨hx, v, SO, SI, v', SO', SI', h1, hr⟩

theorem TJ.alloc (h : TJ W w L j b k r n a d a2 d2) (o : Obj) : TJ W (w.alloc o) ([(w.heap.size, o)] :: L) j b k r n a d a2 d2 := by
  obtain ⟨v, SO, SI, v', SO', SI', ⟨lv, SL, rs, hD, hok⟩, hr⟩ := h
  exact ⟨v, SO, SI, v', SO', SI', ⟨lv, SL, rs, (hD.alloc o).re (by intro c hc h0; simp only [List.flatten_cons, hc]; omega), hok⟩, hr⟩
theorem TJ.drop {A : Seg} (h : TJ W w (A :: L) j b k r n a d a2 d2) : TJ W w L j b k r n a d a2 d2 := by
  obtain ⟨v, SO, SI, v', SO', SI', hT, hr⟩ := h
  refine ⟨v, SO, SI, v', SO', SI', hT.sub ?_, hr⟩
  simp only [List.flatten_cons]
  exact (((((( List.sublist_append_right A _).append_left _).append_left _).append_left _).append_left _).append_left _).append_left _
theorem TJ.h (h : TJ W w L j b k r n a d a2 d2) : H W w L := by
  obtain ⟨v, SO, SI, v', SO', SI', hT, hr⟩ := h
  exact hT.h.drop.drop.drop.drop.drop.drop
theorem TJ.sorted (h : TJ W w L j b k r n a d a2 d2) : d.sorted := by
  obtain ⟨v, SO, SI, v', SO', SI', hT, hr⟩ := h
  exact hT.sorted

/-- All that is held, as a list; what the loads find in it. -/
theorem TJ.hold (h : TJ W w L j b k r n a d a2 d2) : ∃ LL A c A' c', H W w LL ∧ (∀ w', H W w' LL → TJ W w' L j b k r n a d a2 d2) ∧
    (∀ w', H W w' LL → w'.cell? ⟨j, 2, none⟩ = some (.slice A a.recs.length c) ∧ w'.cell? ⟨j, 3, none⟩ = some (.int .i64 a.safe) ∧ w'.cell? ⟨k, 2, none⟩ = some (.slice A' a2.recs.length c') ∧ w'.cell? ⟨k, 3, none⟩ = some (.int .i64 a2.safe)) ∧
    RRows LL (.slice A a.recs.length c) a.recs ∧ RRows LL (.slice A' a2.recs.length c') a2.recs := by
  obtain ⟨v, SO, SI, v', SO', SI', ⟨lv, SL, rs, ⟨M, SM, fr, hM, hk⟩, hok⟩, r1, r2, ⟨b1, b2⟩, b3, b4⟩ := h
  obtain ⟨A, c, rfl, _⟩ := r1.cap
  obtain ⟨A', c', rfl, _⟩ := r2.cap
  refine ⟨_, A, c, A', c', hM, fun w' hw => ⟨_, SO, SI, _, SO', SI', ⟨lv, SL, rs, ⟨M, SM, fr, hw, hk⟩, hok⟩, r1, r2, ⟨b1, b2⟩, b3, b4⟩, fun w' hw => ⟨hw.cellAt 6 0 2 rfl rfl rfl, hw.cellAt 6 0 3 rfl rfl rfl, hw.cellAt 9 0 2 rfl rfl rfl, hw.cellAt 9 0 3 rfl rfl rfl⟩, ?_, ?_⟩
  · exact (((((((r1.reads (by omega) _).cons _).cons _).cons _).cons _).cons _).cons _).cons _
  · exact ((((((((((r2.reads (by omega) _).cons _).cons _).cons _).cons _).cons _).cons _).cons _).cons _).cons _).cons _

def POpP (W : World) (L : List Seg) (b r : Nat) (n : Bs) (d d2 : AD) (e : Ending) (w' : World) : Prop :=
  (e = .returned (.tuple #[.pointer none, .int .i64 (d.jopen n).2.1]) ∧ (d.jopen n).2.1 ≠ 0 ∧ Two W w' L b (d.jopen n).1 r d2) ∨
  ∃ j, e = .returned (.tuple #[.pointer (some ⟨j, 0, none⟩), .int .i64 0]) ∧ (d.jopen n).2.1 = 0 ∧ TN W w' L j b r n ⟨(d.jopen n).2.2, (d.jopen n).2.2.length, false⟩ (d.jopen n).1 d2
theorem Two.openP (h : Two W w L b d r d2) (hn : n.length ≤ 1099511627776) (hc : (d.rd n).length ≤ 1099511620000) : Calls Try.prog 28 #[.pointer (some ⟨b, 0, none⟩), .string (bstr n)] w (POpP W L b r n d d2) := by
  obtain ⟨lv, SL, rs, hD, hok⟩ := h
  refine (open_jour hD hn hc).mono ?_
  rintro x w' (⟨rfl, h1, h2⟩ | ⟨j, rfl, h1, v, SO, SI, h2, h3, h4, h5⟩)
  · exact .inl ⟨rfl, h1, lv, SL, rs, h2, hok⟩
  · exact .inr ⟨j, rfl, h1, v, SO, SI, ⟨lv, SL, rs, h2.re (by intro c hc h0; simp only [List.flatten_cons, hc]; omega), hok⟩, h3, h4, h5⟩
def POpR (W : World) (L : List Seg) (b r : Nat) (n : Bs) (d d2 : AD) (e : Ending) (w' : World) : Prop :=
  (e = .returned (.tuple #[.pointer none, .int .i64 (d2.jopen n).2.1]) ∧ (d2.jopen n).2.1 ≠ 0 ∧ Two W w' L b d r (d2.jopen n).1) ∨
  ∃ k v SO SI, e = .returned (.tuple #[.pointer (some ⟨k, 0, none⟩), .int .i64 0]) ∧ (d2.jopen n).2.1 = 0 ∧ Two W w' (jhdr 65 k r n v (d2.jopen n).2.2.length false :: SO :: SI :: L) b d r (d2.jopen n).1 ∧ Rows v (d2.jopen n).2.2 SO SI ∧ (d2.jopen n).2.2.length ≤ 1099511627000
theorem Two.openR (h : Two W w L b d r d2) (hn : n.length ≤ 1099511627776) (hc : (d2.rd n).length ≤ 1099511620000) : Calls Try.prog 29 #[.pointer (some ⟨r, 0, none⟩), .string (bstr n)] w (POpR W L b r n d d2) := by
  obtain ⟨M, SM, fr, hD, hok⟩ := h.turn
  refine (ropen_jour hD hn hc).mono ?_
  rintro x w' (⟨rfl, h1, h2⟩ | ⟨j, rfl, h1, v, SO, SI, h2, h3, h4, h5⟩)
  · exact .inl ⟨rfl, h1, Two.back h2 hok⟩
  · exact .inr ⟨j, v, SO, SI, rfl, h1, Two.back (M := M) (SM := SM) (fr := fr) (h2.re (by intro c hc h0; simp only [List.flatten_cons, hc]; omega)) hok, h3, h4⟩
/-- The two journals that were opened. -/
theorem TN.join {lr : List Bs} {SO' SI' : Seg} {v' : Value} {k : Nat} (h : Two W w (jhdr 65 k r n v' lr.length false :: SO' :: SI' :: jhdr 99 j b n v a.safe a.dead :: SO :: SI :: L) b d r d2) (r1 : Rows v a.recs SO SI) (b1 : a.recs.length ≤ 1099511627000 ∧ a.safe ≤ 1099511627000) (r2 : Rows v' lr SO' SI') (b2 : lr.length ≤ 1099511627000) :
    TJ W w L j b k r n a d ⟨lr, lr.length, false⟩ d2 :=
  ⟨v, SO, SI, v', SO', SI', h.re (by intro c hc h0; simp only [List.flatten_cons, hc]; omega), r1, r2, b1, b2, b2⟩
end Go.Proofs.Ytfhoblchgeijkaa

/-! part Ac -/
set_option linter.unusedVariables false
set_option linter.unusedSimpArgs false
namespace Go.Proofs.Ytfhoblchgeijkaa
open Go.RowKit Go.Maps
variable {W w : World} {L T : List Seg} {S SO SI : Seg} {v : Value} {n l : Bs} {ls : List Bs} {d d2 d' d2' : AD} {b j k r : Nat} {a a2 a' a2' : AJ}

/-- One act of JournalActs's argument. -/
structure JV where
  kind : Int
  data : VB
  n : Int
  picks : Value × List Int
def JV.cells (x : JV) : List Value := [.int .i64 x.kind, x.data.1, .int .i64 x.n, x.picks.1]
structure JV.ok (L : List Seg) (x : JV) : Prop where
  data : VB.ok L x.data
  picks : ∃ A c, x.picks.1 = .slice A x.picks.2.length c ∧ x.picks.2.length ≤ c ∧ RS L 1 (.slice A x.picks.2.length c) x.picks.2.length (i64s x.picks.2)
  ints : ∀ p ∈ x.picks.2, InI p
  n : InI x.n
theorem JV.ok.mono {L' : List Seg} {x : JV} (h : x.ok L) (hs : ∀ p ∈ L.flatten, p ∈ L'.flatten) : x.ok L' := by
  obtain ⟨⟨A, c, h1, h2⟩, ⟨A', c', h3, h4, h5⟩, h6, h7⟩ := h
  exact ⟨⟨A, c, h1, h2.mono hs⟩, ⟨A', c', h3, h4, h5.mono hs⟩, h6, h7⟩
structure JArg (L : List Seg) (A : Option Addr) (c : Nat) (xs : List JV) : Prop where
  rows : RS L 4 (.slice A xs.length c) xs.length (xs.flatMap JV.cells)
  each : ∀ x ∈ xs, x.ok L
theorem jflat_get : ∀ (xs : List JV) (k : Nat) (hk : k < xs.length) (j : Nat) (hj : j < 4), (xs.flatMap JV.cells)[k * 4 + j]? = (xs[k].cells)[j]?
  | x :: xs, 0, hk, j, hj => by
    simp only [List.flatMap_cons, Nat.zero_mul, Nat.zero_add, List.getElem_cons_zero]
    rw [List.getElem?_append_left (by simp [JV.cells]; omega)]
  | x :: xs, k + 1, hk, j, hj => by
    simp only [List.flatMap_cons, List.getElem_cons_succ]
    have hl : x.cells.length = 4 := rfl
    rw [List.getElem?_append_right (by rw [hl]; omega), hl, show (k + 1) * 4 + j - 4 = k * 4 + j by omega]
    exact jflat_get xs k (by simpa using hk) j hj
theorem JArg.get {A : Option Addr} {c : Nat} {xs : List JV} (h : JArg L A c xs) (hN : 0 < xs.length) : ∃ g o, A = some ⟨g, o, none⟩ ∧ ∀ W w, H W w L → ∀ k (hk : k < xs.length) j u, j < 4 → (xs[k].cells)[j]? = some u → w.cell? ⟨g, o + k * 4 + j, none⟩ = some u := by
  rcases h.rows.2 with ⟨h0, _⟩ | ⟨g, o, cap', c, E, fr, h1, h2, h3⟩
  · omega
  · simp only [Value.slice.injEq] at h1
    obtain ⟨rfl, _, rfl⟩ := h1
    exact ⟨g, o, rfl, fun W w hH k hk j u hj hu => by rw [Nat.add_assoc]; exact hH.cell h2 (h3 _ u (by rw [jflat_get xs k hk j hj]; exact hu))⟩

/-! Bounds. -/
theorem fits_app {m : Nat} {bs : Bs} (h : FOk m d.fs) (hn : n.length ≤ 3000) (hb : bs.length ≤ 3000) : FOk (m + 1) (d.app n bs).fs := by
  have := step_fits (x := ⟨0, n, [], (.slice Option.none 0 0, bs), 0, (.slice Option.none 0 0, [])⟩) h ⟨hb, hn, by simp, by simp⟩
  simpa [AD.step] using this
theorem fits_sync {m : Nat} (h : FOk m d.fs) (hn : n.length ≤ 3000) : FOk (m + 1) (d.chg n (syncF n)).fs := by
  have := step_fits (x := ⟨2, n, [], (.slice Option.none 0 0, []), 0, (.slice Option.none 0 0, [])⟩) h ⟨by simp, hn, by simp, by simp⟩
  simpa [AD.step] using this
theorem fits_trunc {m : Nat} (z : Int) (h : FOk m d.fs) (hn : n.length ≤ 3000) : FOk (m + 1) (d.chg n (truncF z n)).fs := by
  have := step_fits (x := ⟨1, n, [], (.slice Option.none 0 0, []), z, (.slice Option.none 0 0, [])⟩) h ⟨by simp, hn, by simp, by simp⟩
  simpa [AD.step] using this
theorem fits_crash {m : Nat} {ps : List Int} (h : FOk m d.fs) (hp : ps.length ≤ 3000) : FOk (m + 1) (d.crash ps).fs := by
  have := step_fits (x := ⟨6, [], [], (.slice Option.none 0 0, []), 0, (.slice Option.none 0 0, ps)⟩) h ⟨by simp, by simp, by simp, hp⟩
  simpa [AD.step] using this
theorem fits_open {m : Nat} (h : FOk m d.fs) (hn : n.length ≤ 3000) : FOk (m + 2) (d.jopen n).1.fs ∧ (d.jopen n).2.2.length ≤ 3000 * m := by
  have h1 : FOk (m + 1) (d.jcut n).fs := by
    unfold AD.jcut
    split
    · exact fits_trunc _ h hn
    · exact h.up
  have h2 : FOk (m + 2) ((d.jcut n).chg n (syncF n)).fs := fits_sync h1 hn
  have h3 := rd_len h n
  have h4 := parseV_bound (d.rd n) _ 0 0 (Nat.le_refl _) (by omega)
  unfold AD.jopen
  split
  · exact ⟨h.le (by omega), by simp⟩
  split
  · exact ⟨h.le (by omega), by simp⟩
  split
  · exact ⟨h1.le (by omega), by simp⟩
  split
  · exact ⟨h2, by simp⟩
  · exact ⟨h2, by show (parseV (d.rd n) 0 0).1.length ≤ _; omega⟩
theorem fits_japp {m : Nat} (h : FOk m d.fs) (hn : n.length ≤ 3000) (hl : l.length ≤ 300) : FOk (m + 1) (a.appD d n l).fs ∧ (a.app d n l).recs.length ≤ a.recs.length + 1 := by
  unfold AJ.appD AJ.app
  split
  · exact ⟨h.up, by omega⟩
  split
  · exact ⟨h.up, by omega⟩
  refine ⟨fits_app h hn (by rw [frameV_len]; omega), ?_⟩
  split
  · simp
  · show a.recs.length ≤ _; omega
theorem fits_jsync {m : Nat} (h : FOk m d.fs) (hn : n.length ≤ 3000) : FOk (m + 1) (a.syncD d n).fs ∧ (a.sync d n).recs = a.recs := by
  unfold AJ.syncD AJ.sync
  split
  · exact ⟨h.up, rfl⟩
  split
  · exact ⟨h.up, rfl⟩
  refine ⟨fits_sync h hn, ?_⟩
  split <;> rfl
theorem fits_room {m q : Nat} (h : FOk m d.fs) (hm : m ≤ 1000) (hq : q ≤ 65548) : d.room q ∧ d.fs.length < 1099511627776 := by
  refine ⟨fun f hf => ?_, by have := h.1; omega⟩
  have := h.2 f hf
  omega
/-- Behind i acts. -/
structure JInv (i : Nat) (a : AJ) (d : AD) : Prop where
  fs : FOk (3 * i) d.fs
  recs : a.recs.length ≤ 9000 * i

theorem TJ.storeAgg {g : Nat} {cs vs : Array Value} {t ty : TypeId} (h : TJ W w ([(g, .cells cs t (0, 0))] :: L) j b k r n a d a2 d2) (hsz : vs.size = cs.size) (h1 : ∀ v ∈ vs.toList, v.oneCell' = true) (hi : (Try.prog.info? ty).map (·.size) = some cs.size) :
    ∃ w', (Instr.storeAt ty (.pointer (some ⟨g, 0, none⟩)) (.agg vs)).run Try.prog w = .ok () w' ∧ TJ W w' ([(g, .cells vs t (0, 0))] :: L) j b k r n a d a2 d2 := by
  obtain ⟨v, SO, SI, v', SO', SI', ⟨lv, SL, rs, ⟨M, SM, fr, hM, hk⟩, hok⟩, hr⟩ := h
  obtain ⟨w', hrun, h2⟩ := H.storeAgg (P := Try.prog) (ty := ty) (hM.pick 12 rfl) hsz h1 hi
  exact ⟨w', hrun, v, SO, SI, v', SO', SI', ⟨lv, SL, rs, ⟨M, SM, fr, h2.re (by intro c hc h0; simp only [List.flatten_cons, List.eraseIdx, hc]; omega), hk⟩, hok⟩, hr⟩
theorem wpl_storeTJ {ops : Array Oper} {rest : List Oper} {Q : Exit → Act → World → Prop} {x : Act} {dst : Option Tmp} {ty t2 : TypeId} {p q : Operand} {ps : String} {af : Array Edge}
    {g : Nat} {cs vs : Array Value} {t : TypeId} (hx : x.eval p = .pointer (some ⟨g, 0, none⟩)) (hy : x.eval q = .agg vs) (h : TJ W w ([(g, .cells cs t (0, 0))] :: L) j b k r n a d a2 d2) (hsz : vs.size = cs.size) (h1 : ∀ v ∈ vs.toList, v.oneCell' = true)
    (hi : (Try.prog.info? ty).map (·.size) = some cs.size) (hK : ∀ w', TJ W w' ([(g, .cells vs t (0, 0))] :: L) j b k r n a d a2 d2 → wpList Try.prog ops Q rest (x.put dst (.tuple #[])) w') :
    Stp (wpList Try.prog ops Q (⟨dst, .store ty p q, t2, ps, af, none⟩ :: rest) x w) := by
  obtain ⟨w', hrun, h2⟩ := h.storeAgg hsz h1 hi
  refine wpList_plain rfl fun K hK' => ?_
  unfold Oper.wp execOp
  simp only [hx, hy, Sem.run_bind, Sem.run_pure, Result.andThen_ok, hrun]
  exact hK' _ _ (hK w' h2)
theorem TJ.x4 {g : Nat} {cs : Array Value} {t : TypeId} (h : TJ W w ([(g, .cells cs t (0, 0))] :: L) j b k r n a d a2 d2) (i : Nat) {u : Value} (hu : cs[i]? = some u) : w.cell? ⟨g, i, none⟩ = some u := h.h.cellAt 0 0 i rfl rfl hu
theorem TJ.drew (h : TJ W w L j b k r n a d a2 d2) : TJ W w.drew L j b k r n a d a2 d2 := by
  obtain ⟨LL, A, c, A', c', h1, h2, _⟩ := h.hold
  exact h2 _ h1.drew

/-! Each call, over both. -/
theorem tj_app {A : Option Addr} {c m : Nat} (h : TJ W w L j b k r n a d a2 d2) (hr : RS L 1 (.slice A l.length c) l.length (u8s l)) (hn0 : n ≠ []) (hn : n.length ≤ 3000) (hl : l.length ≤ 300) (hf : FOk m d.fs) (hm : m ≤ 1000) (hN : a.recs.length < 1099511627000) :
    Calls Try.prog 30 #[.pointer (some ⟨j, 0, none⟩), .slice A l.length c] w fun e w' => e = .returned (.int .i64 (a.appE d n l)) ∧ TJ W w' L j b k r n (a.app d n l) (a.appD d n l) a2 d2 :=
  h.prog (Q := fun e => e = .returned (.int .i64 (a.appE d n l))) fun T hT hJ => append_jour hJ (hr.mono hT) hn0 (by omega) (by omega) (fits_room hf hm (by omega)).1 (fits_room hf hm (q := 0) (by omega)).2 hN
theorem tj_rapp {A : Option Addr} {c m : Nat} (h : TJ W w L j b k r n a d a2 d2) (hr : RS L 1 (.slice A l.length c) l.length (u8s l)) (hn0 : n ≠ []) (hl : l.length ≤ 300) (hf : FOk m d2.fs) (hm : m ≤ 1000) (hN : a2.recs.length < 1099511627000) :
    Calls Try.prog 31 #[.pointer (some ⟨k, 0, none⟩), .slice A l.length c] w fun e w' => e = .returned (.int .i64 (a2.appE d2 n l)) ∧ TJ W w' L j b k r n a d (a2.app d2 n l) (a2.appD d2 n l) :=
  h.ref (Q := fun e => e = .returned (.int .i64 (a2.appE d2 n l))) fun T hT hJ => rappend_jour hJ (hr.mono hT) hn0 (by omega) (fits_room hf hm (by omega)).1 (fits_room hf hm (q := 0) (by omega)).2 hN
theorem tj_sync (h : TJ W w L j b k r n a d a2 d2) (hn0 : n ≠ []) (hn : n.length ≤ 3000) :
    Calls Try.prog 32 #[.pointer (some ⟨j, 0, none⟩)] w fun e w' => e = .returned (.int .i64 (a.syncE d n)) ∧ TJ W w' L j b k r n (a.sync d n) (a.syncD d n) a2 d2 :=
  h.prog (Q := fun e => e = .returned (.int .i64 (a.syncE d n))) fun T hT hJ => sync_jour hJ hn0 (by omega)
theorem tj_rsync (h : TJ W w L j b k r n a d a2 d2) (hn0 : n ≠ []) :
    Calls Try.prog 33 #[.pointer (some ⟨k, 0, none⟩)] w fun e w' => e = .returned (.int .i64 (a2.syncE d2 n)) ∧ TJ W w' L j b k r n a d (a2.sync d2 n) (a2.syncD d2 n) :=
  h.ref (Q := fun e => e = .returned (.int .i64 (a2.syncE d2 n))) fun T hT hJ => rsync_jour hJ hn0
theorem tj_dapp {A : Option Addr} {c m : Nat} (h : TJ W w L j b k r n a d a2 d2) (hr : RS L 1 (.slice A l.length c) l.length (u8s l)) (hn : n.length ≤ 3000) (hl : l.length ≤ 300) (hf : FOk m d.fs) (hm : m ≤ 1000) :
    Calls Try.prog 13 #[.pointer (some ⟨b, 0, none⟩), .string (bstr n), .slice A l.length c] w fun e w' => e = .returned (.int .i64 (d.appE n)) ∧ TJ W w' L j b k r n a (d.app n l) a2 d2 :=
  h.disk (Q := fun e => e = .returned (.int .i64 (d.appE n))) fun T hT hD => app_disk hD (RL_of (hr.mono hT) (by omega)) (by omega) (by omega) (fits_room hf hm (by omega)).1 (fits_room hf hm (q := 0) (by omega)).2
theorem tj_rdapp {A : Option Addr} {c m : Nat} (h : TJ W w L j b k r n a d a2 d2) (hr : RS L 1 (.slice A l.length c) l.length (u8s l)) (hl : l.length ≤ 300) (hf : FOk m d2.fs) (hm : m ≤ 1000) :
    Calls Try.prog 35 #[.pointer (some ⟨r, 0, none⟩), .string (bstr n), .slice A l.length c] w fun e w' => e = .returned (.int .i64 (d2.appE n)) ∧ TJ W w' L j b k r n a d a2 (d2.app n l) :=
  h.rdisk (Q := fun e => e = .returned (.int .i64 (d2.appE n))) fun T hT hD => rapp_disk hD (RL_of (hr.mono hT) (by omega)) (by omega) (fits_room hf hm (by omega)).1 (fits_room hf hm (q := 0) (by omega)).2
theorem tj_arm (h : TJ W w L j b k r n a d a2 d2) (x : Int) (hx : x < 9223372036854775808) :
    Calls Try.prog 16 #[.pointer (some ⟨b, 0, none⟩), .int .i64 x] w fun e w' => e = .returned (.tuple #[]) ∧ TJ W w' L j b k r n a (d.arm x) a2 d2 :=
  h.disk (Q := fun e => e = .returned (.tuple #[])) fun T hT hD => arm_disk hD x hx
theorem tj_rarm (h : TJ W w L j b k r n a d a2 d2) (x : Int) (hx : x < 9223372036854775808) :
    Calls Try.prog 34 #[.pointer (some ⟨r, 0, none⟩), .int .i64 x] w fun e w' => e = .returned (.tuple #[]) ∧ TJ W w' L j b k r n a d a2 (d2.arm x) :=
  h.rdisk (Q := fun e => e = .returned (.tuple #[])) fun T hT hD => rarm_disk hD x hx
theorem tj_crash {vp : Value} {ps : List Int} {m : Nat} (h : TJ W w L j b k r n a d a2 d2) (hr : RI L vp ps) (hf : FOk m d.fs) :
    Calls Try.prog 14 #[.pointer (some ⟨b, 0, none⟩), vp] w fun e w' => e = .returned (.tuple #[]) ∧ TJ W w' L j b k r n a (d.crash ps) a2 d2 :=
  h.disk (Q := fun e => e = .returned (.tuple #[])) fun T hT hD => crash_disk hD (hr.mono hT) (fun f hf2 => by have := hf.2 f hf2; unfold maxLen; omega)
theorem tj_rcrash {vp : Value} {ps : List Int} (h : TJ W w L j b k r n a d a2 d2) (hr : RI L vp ps) :
    Calls Try.prog 36 #[.pointer (some ⟨r, 0, none⟩), vp] w fun e w' => e = .returned (.tuple #[]) ∧ TJ W w' L j b k r n a d a2 (d2.crash ps) :=
  h.rdisk (Q := fun e => e = .returned (.tuple #[])) fun T hT hD => rcrash_disk hD (hr.mono hT)

def PTJP (W : World) (L : List Seg) (j b k r : Nat) (n : Bs) (a : AJ) (d : AD) (a2 : AJ) (d2 : AD) (o : AD × Int × List Bs) (e : Ending) (w' : World) : Prop :=
  (e = .returned (.tuple #[.pointer none, .int .i64 o.2.1]) ∧ o.2.1 ≠ 0 ∧ TJ W w' L j b k r n a o.1 a2 d2) ∨
  ∃ j', e = .returned (.tuple #[.pointer (some ⟨j', 0, none⟩), .int .i64 0]) ∧ o.2.1 = 0 ∧ TN W w' L j' b r n ⟨o.2.2, o.2.2.length, false⟩ o.1 d2
theorem tj_openP (h : TJ W w L j b k r n a d a2 d2) (hn : n.length ≤ 3000) (hc : (d.rd n).length ≤ 1099511620000) :
    Calls Try.prog 28 #[.pointer (some ⟨b, 0, none⟩), .string (bstr n)] w (PTJP W L j b k r n a d a2 d2 (d.jopen n)) := by
  obtain ⟨v, SO, SI, v', SO', SI', hT, hr⟩ := h
  refine (hT.openP (n := n) (by omega) hc).mono ?_
  rintro e w' (⟨rfl, h1, h2⟩ | ⟨j', rfl, h1, v1, SO1, SI1, h2, h3⟩)
  · exact .inl ⟨rfl, h1, v, SO, SI, v', SO', SI', h2, hr⟩
  · refine .inr ⟨j', rfl, h1, v1, SO1, SI1, h2.sub ?_, h3⟩
    simp only [List.flatten_cons]
    refine ((List.Sublist.append_left ?_ _).append_left _).append_left _
    exact (List.sublist_append_right _ _).trans ((List.sublist_append_right _ _).trans ((List.sublist_append_right _ _).trans ((List.sublist_append_right _ _).trans ((List.sublist_append_right _ _).trans (List.sublist_append_right _ _))))) |> fun h => by simpa using h
theorem tj_openRf (h : TJ W w L j b k r n a d a2 d2) (hn : n.length ≤ 3000) (hc : (d2.rd n).length ≤ 1099511620000) (hcode : (d2.jopen n).2.1 ≠ 0) :
    Calls Try.prog 29 #[.pointer (some ⟨r, 0, none⟩), .string (bstr n)] w fun e w' => e = .returned (.tuple #[.pointer none, .int .i64 (d2.jopen n).2.1]) ∧ TJ W w' L j b k r n a d a2 (d2.jopen n).1 := by
  obtain ⟨v, SO, SI, v', SO', SI', hT, hr⟩ := h
  refine (hT.openR (n := n) (by omega) hc).mono ?_
  rintro e w' (⟨rfl, h1, h2⟩ | ⟨k', v1, SO1, SI1, rfl, h1, h2, h3⟩)
  · exact ⟨rfl, v, SO, SI, v', SO', SI', h2, hr⟩
  · exact absurd h1 hcode
theorem tn_openR (h : TN W w L j b r n a d d2) (hn : n.length ≤ 3000) (hc : (d2.rd n).length ≤ 1099511620000) (hcode : (d2.jopen n).2.1 = 0) :
    Calls Try.prog 29 #[.pointer (some ⟨r, 0, none⟩), .string (bstr n)] w fun e w' => ∃ k', e = .returned (.tuple #[.pointer (some ⟨k', 0, none⟩), .int .i64 0]) ∧ TJ W w' L j b k' r n a d ⟨(d2.jopen n).2.2, (d2.jopen n).2.2.length, false⟩ (d2.jopen n).1 := by
  obtain ⟨v, SO, SI, hT, r1, b1⟩ := h
  refine (hT.openR (n := n) (by omega) hc).mono ?_
  rintro e w' (⟨rfl, h1, h2⟩ | ⟨k', v1, SO1, SI1, rfl, h1, h2, h3, h4⟩)
  · exact absurd hcode h1
  · exact ⟨k', rfl, TN.join h2 r1 b1 h3 h4⟩
end Go.Proofs.Ytfhoblchgeijkaa
