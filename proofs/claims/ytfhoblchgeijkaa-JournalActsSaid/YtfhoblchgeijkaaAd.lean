import Derived.Test.YtfhoblchgeijkaaAA
import Derived.Deep.CutBlock
set_option linter.unusedVariables false
set_option linter.unusedSimpArgs false
namespace Go.Proofs.Ytfhoblchgeijkaa
open Go.RowKit Go.Maps
variable {W w : World} {L T : List Seg} {S SO SI : Seg} {v : Value} {n l : Bs} {ls : List Bs} {d d2 d' d2' : AD} {b j k r : Nat} {a a2 a' a2' : AJ}

set_option maxRecDepth 100000 in
set_option maxHeartbeats 12800000 in
theorem jacts_walk {A : Option Addr} {c : Nat} {xs : List JV} (h : H W w L) (ha : JArg L A c xs) (hN : xs.length ≤ 80) : Calls Try.prog 8 #[.slice A xs.length c] w (PTrue W L) := by
  have h' := Lib.hid h
  have ha' := Lib.hid ha
  obtain ⟨N, hNd⟩ : ∃ N, N = xs.length := ⟨_, rfl⟩
  rw [← hNd] at hN ⊢
  have hN' := Lib.hid hNd
  have g1 : ¬ (80 : Int) < (N : Int) := by omega
  clear h ha hNd
  go_enter Try.func8, Try.ntmps8
  go_wp2_with fail
  refine (new_any h'.out).mono ?_
  rintro e w1 ⟨b, rfl, h1⟩
  have h1' := Lib.hid (two_new h1)
  clear h1
  go_wp2_with fail
  obtain ⟨r, hr⟩ : ∃ r, r = w1.heap.size := ⟨_, rfl⟩
  rw [← hr] at h1' ⊢
  clear hr
  refine (Two.openP (n := [106]) h1'.out (by decide) (by decide)).mono ?_
  have hj0 : AD.new.jopen [106] = (AD.new, 0, []) := jopen_none (n := [106]) (by decide) [] 0
  unfold POpP
  rw [hj0]
  dsimp only
  rintro e w2 (⟨_, hbad, _⟩ | ⟨j0, rfl, _, v0, SO0, SI0, h2, r0, b0⟩)
  · exact absurd rfl hbad
  have h2' := Lib.hid h2
  have r0' := Lib.hid r0
  have b0' := Lib.hid b0
  clear h2 r0 b0 h1'
  go_wp2_with fail
  have hop := Two.openR (n := [106]) h2'.out (by decide) (by show (AD.new.rd [106]).length ≤ _; decide)
  refine hop.mono ?_
  unfold POpR
  rw [hj0]
  dsimp only
  rintro e w3 (⟨_, hbad, _⟩ | ⟨k0, v1, SO1, SI1, rfl, _, h3, r1, b1⟩)
  · exact absurd rfl hbad
  have h3' := Lib.hid (TN.join (a := ⟨[], 0, false⟩) (lr := []) h3 r0'.out b0'.out r1 b1)
  clear h3 r1 b1 h2' r0' b0' hj0
  go_wp2_with fail
  go_loopw [5, 7, 9] (fun p q i wr => ∃ (i' j k : Nat) (a : AJ) (d : AD), i' ≤ N ∧ p = .pointer (some ⟨j, 0, none⟩) ∧ q = .pointer (some ⟨k, 0, none⟩) ∧ i = .int .i64 i' ∧ JInv i' a d ∧ TJ W wr L j b k r [106] a d a d) (fun _ _ i _ => N - (intOf i).toNat)
  case atStart => exact ⟨0, j0, k0, _, _, by omega, rfl, rfl, rfl, ⟨⟨by simp [AD.new], by simp [AD.new]⟩, by simp⟩, h3'.out⟩
  case round =>
    obtain ⟨i', j, k, a, d, hi, rfl, rfl, rfl, hinv, hw⟩ := hrel
    have hw' := Lib.hid hw
    have hinv' := Lib.hid hinv
    clear hw hinv h3'
    by_cases hlt : i' < N
    · have hki : (i' : Int) < (N : Int) := by omega
      have hlt2 : i' < xs.length := by rw [← hN'.out]; exact hlt
      obtain ⟨g, o, rfl, hcell⟩ := ha'.out.get (by omega)
      obtain ⟨x, hx⟩ : ∃ x, xs[i'] = x := ⟨_, rfl⟩
      have hxm : x ∈ xs := by rw [← hx]; exact List.getElem_mem hlt2
      have hxo := ha'.out.each x hxm
      have hc4 := hcell W wr hw'.out.h i' hlt2
      rw [hx] at hc4
      obtain ⟨kind, ⟨dv, dt⟩, nn, ⟨pv, ps⟩⟩ := x
      have c0 := hc4 0 _ (by decide) rfl
      have c1 := hc4 1 _ (by decide) rfl
      have c2 := hc4 2 _ (by decide) rfl
      have c3 := hc4 3 _ (by decide) rfl
      simp only at c0 c1 c2 c3
      rw [Nat.add_zero] at c0
      obtain ⟨Ad, cd, hdv, hdr⟩ := hxo.data
      obtain ⟨Ap, cp, hpv, hpl, hpr⟩ := hxo.picks
      have hpi := hxo.ints
      have hnb := hxo.n
      simp only at hdv hdr hpv hpl hpr hpi hnb
      subst hdv hpv
      unfold InI at hnb
      have hdr' := Lib.hid hdr
      have hpr' := Lib.hid hpr
      have hpi' := Lib.hid hpi
      clear hcell hx hxm hxo hc4 hdr hpr hpi
      go_wp2_with (with_reducible refine stp_store ?_)
      refine wpl_storeTJ rfl rfl (hw'.out.alloc _) rfl (by intro u hu; simp at hu; rcases hu with rfl | rfl | rfl | rfl <;> rfl) (by kernel_rfl) ?_
      intro w4 h4
      have h4' := Lib.hid h4
      obtain ⟨g4, hg4⟩ : ∃ g4, g4 = wr.heap.size := ⟨_, rfl⟩
      rw [← hg4] at h4 h4' ⊢
      have q0 : w4.cell? ⟨g4, 0, none⟩ = some (.int .i64 kind) := h4.x4 0 rfl
      have q1 : w4.cell? ⟨g4, 1, none⟩ = some (.slice Ad dt.length cd) := h4.x4 1 rfl
      have q2 : w4.cell? ⟨g4, 2, none⟩ = some (.int .i64 nn) := h4.x4 2 rfl
      have q3 : w4.cell? ⟨g4, 3, none⟩ = some (.slice Ap ps.length cp) := h4.x4 3 rfl
      clear h4 hg4 c0 c1 c2 c3 hw' hop
      by_cases hbig : 300 < dt.length
      · have e1 : (300 : Int) < (dt.length : Int) := by omega
        go_wp2_with fail
        refine (jawake_true h4'.out.h.drop).mono ?_
        rintro e w9 ⟨rfl, h9⟩
        go_wp2_with fail
        go_ret
        exact ⟨rfl, h9⟩
      have e1 : ¬ (300 : Int) < (dt.length : Int) := by omega
      by_cases hbig2 : 20 < ps.length
      · have e2 : (20 : Int) < (ps.length : Int) := by omega
        go_wp2_with fail
        refine (jawake_true h4'.out.h.drop).mono ?_
        rintro e w9 ⟨rfl, h9⟩
        go_wp2_with fail
        go_ret
        exact ⟨rfl, h9⟩
      have e2 : ¬ (20 : Int) < (ps.length : Int) := by omega
      go_upto_block 2 with fail
      go_cut [5, 7] (fun p q w' => ∃ (j k : Nat) (a : AJ) (d : AD), p = .pointer (some ⟨j, 0, none⟩) ∧ q = .pointer (some ⟨k, 0, none⟩) ∧ JInv (i' + 1) a d ∧ TJ W w' L j b k r [106] a d a d)
      case first =>
        by_cases k0 : kind = 0
        · subst k0
          obtain ⟨y, hy⟩ : ∃ y, y = a.appE d [106] dt := ⟨_, rfl⟩
          have hy' := Lib.hid hy
          have hfit := fits_japp (a := a) (n := [106]) (l := dt) hinv'.out.fs (by decide) (by omega)
          have hi2 := Lib.hid (show JInv (i' + 1) (a.app d [106] dt) (a.appD d [106] dt) from ⟨hfit.1.le (by omega), by have := hfit.2; have := hinv'.out.recs; omega⟩)
          have hyy : (y != y) = false := by simp
          clear hy hfit
          go_wp2_with fail
          refine wpF_start (S := (fun w' => w'.cell? ⟨g4, 1, none⟩ = some (.slice Ad dt.length cd))) (fins := []) (by kernel_rfl) ?_ (fun hHeld => ?_)
          · exact h4'.out.drew.x4 1 rfl
          refine wpF_take 0 (v := ?_) hHeld (by simp only [List.getElem?_toArray, List.getElem?_cons_zero]; exact rfl) (by kernel_rfl) (by exact fun _ _ _ h => h) (by rfl) ?_ ?_
          rotate_left
          · (intro w hSw; (try dsimp only at hSw); go_simp; try with_reducible rfl)
          try simp only [Act.put, List.setIfInBounds_toArray, List.set_cons_zero, List.set_cons_succ]
          refine wpF_take 1 (v := ?_) hHeld (by simp only [List.getElem?_toArray, List.getElem?_cons_succ, List.getElem?_cons_zero]; exact rfl) (by kernel_rfl) (by exact fun _ _ _ h => h) (by rfl) ?_ ?_
          rotate_left
          · (intro w hSw; (try dsimp only at hSw); go_simp; try with_reducible rfl)
          try simp only [Act.put, List.setIfInBounds_toArray, List.set_cons_zero, List.set_cons_succ]
          refine wpF_take 2 (v := ?_) hHeld (by simp only [List.getElem?_toArray, List.getElem?_cons_succ, List.getElem?_cons_zero]; exact rfl) (by kernel_rfl) (by exact fun _ _ _ h => h) (by rfl) ?_ ?_
          rotate_left
          · (intro w hSw; (try dsimp only at hSw); go_simp; try with_reducible rfl)
          try simp only [Act.put, List.setIfInBounds_toArray, List.set_cons_zero, List.set_cons_succ]
          refine wpF_take 4 (v := ?_) hHeld (by simp only [List.getElem?_toArray, List.getElem?_cons_succ, List.getElem?_cons_zero]; exact rfl) (by kernel_rfl) (by exact fun _ _ _ h => h) (by rfl) ?_ ?_
          rotate_left
          · (intro w hSw; (try dsimp only at hSw); go_simp; try with_reducible rfl)
          try simp only [Act.put, List.setIfInBounds_toArray, List.set_cons_zero, List.set_cons_succ]
          refine wpF_take 5 (v := ?_) hHeld (by simp only [List.getElem?_toArray, List.getElem?_cons_succ, List.getElem?_cons_zero]; exact rfl) (by kernel_rfl) (by exact fun _ _ _ h => h) (by rfl) ?_ ?_
          rotate_left
          · (intro w hSw; (try dsimp only at hSw); go_simp; try with_reducible rfl)
          try simp only [Act.put, List.setIfInBounds_toArray, List.set_cons_zero, List.set_cons_succ]
          refine wpF_take 6 (v := ?_) hHeld (by simp only [List.getElem?_toArray, List.getElem?_cons_succ, List.getElem?_cons_zero]; exact rfl) (by kernel_rfl) (by exact fun _ _ _ h => h) (by rfl) ?_ ?_
          rotate_left
          · (intro w hSw; (try dsimp only at hSw); go_simp; try with_reducible rfl)
          try simp only [Act.put, List.setIfInBounds_toArray, List.set_cons_zero, List.set_cons_succ]
          refine wpF_one 3 (by simp only [List.getElem?_toArray, List.getElem?_cons_succ, List.getElem?_cons_zero]; exact rfl) (by kernel_rfl) (fun K hK => ?_)
          go_simp
          refine (tj_app h4'.out.drew (hdr'.out.cons _) (by decide) (by decide) (by omega) hinv'.out.fs (by omega) (by have := hinv'.out.recs; omega)).mono ?_
          rw [← hy'.out]
          rintro e w5 ⟨rfl, h5⟩
          refine hK _ _ ?_ (fun hHeld => ?_)
          · exact h5.x4 1 rfl
          clear hK K
          try simp only [Act.put, List.setIfInBounds_toArray, List.set_cons_zero, List.set_cons_succ]
          refine wpF_one 7 (by simp only [List.getElem?_toArray, List.getElem?_cons_succ, List.getElem?_cons_zero]; exact rfl) (by kernel_rfl) (fun K hK => ?_)
          go_simp
          refine (tj_rapp h5 (hdr'.out.cons _) (by decide) (by omega) hinv'.out.fs (by omega) (by have := hinv'.out.recs; omega)).mono ?_
          rw [← hy'.out]
          rintro e w6 ⟨rfl, h6⟩
          refine hK _ _ ?_ (fun hHeld => ?_)
          · exact h6.x4 1 rfl
          clear hK K
          try simp only [Act.put, List.setIfInBounds_toArray, List.set_cons_zero, List.set_cons_succ]
          refine wpF_take 8 (v := ?_) hHeld (by simp only [List.getElem?_toArray, List.getElem?_cons_succ, List.getElem?_cons_zero]; exact rfl) (by kernel_rfl) (by exact fun _ _ _ h => h) (by rfl) ?_ ?_
          rotate_left
          · (intro w hSw; (try dsimp only at hSw); go_simp; try with_reducible rfl)
          try simp only [Act.put, List.setIfInBounds_toArray, List.set_cons_zero, List.set_cons_succ]
          refine wpF_done (by kernel_rfl) ?_
          have h6' := Lib.hid h6
          clear h6 h5 hHeld
          go_wp2_with fail
          go_meet
          exact ⟨j, k, _, _, rfl, rfl, hi2.out, h6'.out.drop⟩
        by_cases k1 : kind = 1
        · subst k1
          obtain ⟨y, hy⟩ : ∃ y, y = a.syncE d [106] := ⟨_, rfl⟩
          have hy' := Lib.hid hy
          have hfit := fits_jsync (a := a) (n := [106]) hinv'.out.fs (by decide)
          have hi2 := Lib.hid (show JInv (i' + 1) (a.sync d [106]) (a.syncD d [106]) from ⟨hfit.1.le (by omega), by rw [hfit.2]; have := hinv'.out.recs; omega⟩)
          have hyy : (y != y) = false := by simp
          clear hy hfit
          go_wp2_with fail
          refine (tj_sync h4'.out (by decide) (by decide)).mono ?_
          rw [← hy'.out]
          rintro e w5 ⟨rfl, h5⟩
          have h5' := Lib.hid h5
          clear h5
          go_wp2_with fail
          refine (tj_rsync h5'.out (by decide)).mono ?_
          rw [← hy'.out]
          rintro e w6 ⟨rfl, h6⟩
          have h6' := Lib.hid h6
          clear h6 h5'
          go_wp2_with fail
          go_meet
          exact ⟨j, k, _, _, rfl, rfl, hi2.out, h6'.out.drop⟩
        by_cases k3 : kind = 3
        · subst k3
          have hi2 := Lib.hid (show JInv (i' + 1) a (d.arm nn) from ⟨hinv'.out.fs.le (by omega), by have := hinv'.out.recs; omega⟩)
          go_wp2_with fail
          refine (tj_arm h4'.out nn hnb.2).mono ?_
          rintro e w5 ⟨rfl, h5⟩
          have q2b : w5.cell? ⟨g4, 2, none⟩ = some (.int .i64 nn) := h5.x4 2 rfl
          have h5' := Lib.hid h5
          clear h5
          go_wp2_with fail
          refine (tj_rarm h5'.out nn hnb.2).mono ?_
          rintro e w6 ⟨rfl, h6⟩
          have h6' := Lib.hid h6
          clear h6 h5' q2b
          go_wp2_with fail
          go_meet
          exact ⟨j, k, _, _, rfl, rfl, hi2.out, h6'.out.drop⟩
        by_cases k4 : kind = 4
        · subst k4
          obtain ⟨y, hy⟩ : ∃ y, y = d.appE [106] := ⟨_, rfl⟩
          have hy' := Lib.hid hy
          have hi2 := Lib.hid (show JInv (i' + 1) a (d.app [106] dt) from ⟨(fits_app hinv'.out.fs (by decide) (by omega)).le (by omega), by have := hinv'.out.recs; omega⟩)
          have hyy : (y != y) = false := by simp
          clear hy
          go_wp2_with fail
          refine wpF_start (S := (fun w' => w'.cell? ⟨g4, 1, none⟩ = some (.slice Ad dt.length cd))) (fins := []) (by kernel_rfl) ?_ (fun hHeld => ?_)
          · exact h4'.out.drew.x4 1 rfl
          refine wpF_take 0 (v := ?_) hHeld (by simp only [List.getElem?_toArray, List.getElem?_cons_zero]; exact rfl) (by kernel_rfl) (by exact fun _ _ _ h => h) (by rfl) ?_ ?_
          rotate_left
          · (intro w hSw; (try dsimp only at hSw); go_simp; try with_reducible rfl)
          try simp only [Act.put, List.setIfInBounds_toArray, List.set_cons_zero, List.set_cons_succ]
          refine wpF_take 1 (v := ?_) hHeld (by simp only [List.getElem?_toArray, List.getElem?_cons_succ, List.getElem?_cons_zero]; exact rfl) (by kernel_rfl) (by exact fun _ _ _ h => h) (by rfl) ?_ ?_
          rotate_left
          · (intro w hSw; (try dsimp only at hSw); go_simp; try with_reducible rfl)
          try simp only [Act.put, List.setIfInBounds_toArray, List.set_cons_zero, List.set_cons_succ]
          refine wpF_take 2 (v := ?_) hHeld (by simp only [List.getElem?_toArray, List.getElem?_cons_succ, List.getElem?_cons_zero]; exact rfl) (by kernel_rfl) (by exact fun _ _ _ h => h) (by rfl) ?_ ?_
          rotate_left
          · (intro w hSw; (try dsimp only at hSw); go_simp; try with_reducible rfl)
          try simp only [Act.put, List.setIfInBounds_toArray, List.set_cons_zero, List.set_cons_succ]
          refine wpF_take 4 (v := ?_) hHeld (by simp only [List.getElem?_toArray, List.getElem?_cons_succ, List.getElem?_cons_zero]; exact rfl) (by kernel_rfl) (by exact fun _ _ _ h => h) (by rfl) ?_ ?_
          rotate_left
          · (intro w hSw; (try dsimp only at hSw); go_simp; try with_reducible rfl)
          try simp only [Act.put, List.setIfInBounds_toArray, List.set_cons_zero, List.set_cons_succ]
          refine wpF_take 5 (v := ?_) hHeld (by simp only [List.getElem?_toArray, List.getElem?_cons_succ, List.getElem?_cons_zero]; exact rfl) (by kernel_rfl) (by exact fun _ _ _ h => h) (by rfl) ?_ ?_
          rotate_left
          · (intro w hSw; (try dsimp only at hSw); go_simp; try with_reducible rfl)
          try simp only [Act.put, List.setIfInBounds_toArray, List.set_cons_zero, List.set_cons_succ]
          refine wpF_take 6 (v := ?_) hHeld (by simp only [List.getElem?_toArray, List.getElem?_cons_succ, List.getElem?_cons_zero]; exact rfl) (by kernel_rfl) (by exact fun _ _ _ h => h) (by rfl) ?_ ?_
          rotate_left
          · (intro w hSw; (try dsimp only at hSw); go_simp; try with_reducible rfl)
          try simp only [Act.put, List.setIfInBounds_toArray, List.set_cons_zero, List.set_cons_succ]
          refine wpF_one 3 (by simp only [List.getElem?_toArray, List.getElem?_cons_succ, List.getElem?_cons_zero]; exact rfl) (by kernel_rfl) (fun K hK => ?_)
          go_simp
          refine (tj_dapp (n := [106]) h4'.out.drew (hdr'.out.cons _) (by decide) (by omega) hinv'.out.fs (by omega)).mono ?_
          rw [← hy'.out]
          rintro e w5 ⟨rfl, h5⟩
          refine hK _ _ ?_ (fun hHeld => ?_)
          · exact h5.x4 1 rfl
          clear hK K
          try simp only [Act.put, List.setIfInBounds_toArray, List.set_cons_zero, List.set_cons_succ]
          refine wpF_one 7 (by simp only [List.getElem?_toArray, List.getElem?_cons_succ, List.getElem?_cons_zero]; exact rfl) (by kernel_rfl) (fun K hK => ?_)
          go_simp
          refine (tj_rdapp (n := [106]) h5 (hdr'.out.cons _) (by omega) hinv'.out.fs (by omega)).mono ?_
          rw [← hy'.out]
          rintro e w6 ⟨rfl, h6⟩
          refine hK _ _ ?_ (fun hHeld => ?_)
          · exact h6.x4 1 rfl
          clear hK K
          try simp only [Act.put, List.setIfInBounds_toArray, List.set_cons_zero, List.set_cons_succ]
          refine wpF_take 8 (v := ?_) hHeld (by simp only [List.getElem?_toArray, List.getElem?_cons_succ, List.getElem?_cons_zero]; exact rfl) (by kernel_rfl) (by exact fun _ _ _ h => h) (by rfl) ?_ ?_
          rotate_left
          · (intro w hSw; (try dsimp only at hSw); go_simp; try with_reducible rfl)
          try simp only [Act.put, List.setIfInBounds_toArray, List.set_cons_zero, List.set_cons_succ]
          refine wpF_done (by kernel_rfl) ?_
          have h6' := Lib.hid h6
          clear h6 h5 hHeld
          go_wp2_with fail
          go_meet
          exact ⟨j, k, _, _, rfl, rfl, hi2.out, h6'.out.drop⟩
        have z0 : (kind == 0) = false := by simpa using k0
        have z1 : (kind == 1) = false := by simpa using k1
        have z3 : (kind == 3) = false := by simpa using k3
        have z4 : (kind == 4) = false := by simpa using k4
        clear k0 k1 k3 k4
        by_cases k2 : kind = 2
        · have z2 : (kind == 2) = true := by simpa using k2
          clear k2
          have hri := Lib.hid (show RI ([(g4, Obj.cells #[.int .i64 kind, .slice Ad dt.length cd, .int .i64 nn, .slice Ap ps.length cp] 60 (0, 0))] :: L) (.slice Ap ps.length cp) ps from ⟨hpr'.out.cons _, ⟨_, _, rfl, hpl⟩, hpi'.out, by omega⟩)
          go_wp2_with fail
          refine (tj_crash h4'.out hri.out hinv'.out.fs).mono ?_
          rintro e w5 ⟨rfl, h5⟩
          have q3b : w5.cell? ⟨g4, 3, none⟩ = some (.slice Ap ps.length cp) := h5.x4 3 rfl
          have h5' := Lib.hid h5
          clear h5
          go_wp2_with fail
          refine (tj_rcrash h5'.out hri.out).mono ?_
          rintro e w6 ⟨rfl, h6⟩
          have h6' := Lib.hid h6
          have hfd : FOk (3 * i' + 1) (d.crash ps).fs := fits_crash hinv'.out.fs (by omega)
          clear h6 h5' q3b
          have ho := fits_open (n := [106]) hfd (by decide)
          have hrdl := rd_len hfd [106]
          obtain ⟨o, hod⟩ : ∃ o, o = (d.crash ps).jopen [106] := ⟨_, rfl⟩
          rw [← hod] at ho
          have hod' := Lib.hid hod
          obtain ⟨dn, code, rs⟩ := o
          simp only at ho
          have hi2 := Lib.hid (show JInv (i' + 1) ⟨rs, rs.length, false⟩ dn from ⟨ho.1.le (by omega), by show rs.length ≤ _; have := ho.2; omega⟩)
          have hi3 := Lib.hid (show JInv (i' + 1) a dn from ⟨ho.1.le (by omega), by have := hinv'.out.recs; omega⟩)
          have hrdl2 := Lib.hid (show ((d.crash ps).rd [106]).length ≤ 1099511620000 by omega)
          clear hod ho hrdl hfd
          go_wp2_with fail
          refine (tj_openP h6'.out (by decide) hrdl2.out).mono ?_
          unfold PTJP
          rw [← hod'.out]
          dsimp only
          rintro e w7 (⟨rfl, hcode, h7⟩ | ⟨j', rfl, hcode, h7⟩)
          · have hcz : (code == 0) = false := by simpa using hcode
            have hcc : (code != code) = false := by simp
            have h7' := Lib.hid h7
            have hcode' := Lib.hid hcode
            clear h7 hcode
            go_wp2_with fail
            refine (tj_openRf h7'.out (by decide) hrdl2.out (by rw [← hod'.out]; exact hcode'.out)).mono ?_
            rw [← hod'.out]
            dsimp only
            rintro e w8 ⟨rfl, h8⟩
            have h8' := Lib.hid h8
            clear h8 h7'
            go_wp2_with fail
            go_meet
            exact ⟨j, k, a, dn, rfl, rfl, hi3.out, h8'.out.drop⟩
          · subst hcode
            have h7' := Lib.hid h7
            clear h7
            go_wp2_with fail
            refine (tn_openR h7'.out (by decide) hrdl2.out (by rw [← hod'.out])).mono ?_
            rw [← hod'.out]
            dsimp only
            rintro e w8 ⟨k', rfl, h8⟩
            have h8' := Lib.hid h8
            clear h8 h7'
            go_wp2_with fail
            go_meet
            exact ⟨j', k', _, dn, rfl, rfl, hi2.out, h8'.out.drop⟩
        · have z2 : (kind == 2) = false := by simpa using k2
          clear k2
          have hfd : FOk (3 * i' + 1) d.fs := hinv'.out.fs.up
          have ho := fits_open (n := [106]) hfd (by decide)
          have hrdl := rd_len hfd [106]
          obtain ⟨o, hod⟩ : ∃ o, o = d.jopen [106] := ⟨_, rfl⟩
          rw [← hod] at ho
          have hod' := Lib.hid hod
          obtain ⟨dn, code, rs⟩ := o
          simp only at ho
          have hi2 := Lib.hid (show JInv (i' + 1) ⟨rs, rs.length, false⟩ dn from ⟨ho.1.le (by omega), by show rs.length ≤ _; have := ho.2; omega⟩)
          have hi3 := Lib.hid (show JInv (i' + 1) a dn from ⟨ho.1.le (by omega), by have := hinv'.out.recs; omega⟩)
          have hrdl2 := Lib.hid (show (d.rd [106]).length ≤ 1099511620000 by omega)
          clear hod ho hrdl hfd
          go_wp2_with fail
          refine (tj_openP h4'.out (by decide) hrdl2.out).mono ?_
          unfold PTJP
          rw [← hod'.out]
          dsimp only
          rintro e w7 (⟨rfl, hcode, h7⟩ | ⟨j', rfl, hcode, h7⟩)
          · have hcz : (code == 0) = false := by simpa using hcode
            have hcc : (code != code) = false := by simp
            have h7' := Lib.hid h7
            have hcode' := Lib.hid hcode
            clear h7 hcode
            go_wp2_with fail
            refine (tj_openRf h7'.out (by decide) hrdl2.out (by rw [← hod'.out]; exact hcode'.out)).mono ?_
            rw [← hod'.out]
            dsimp only
            rintro e w8 ⟨rfl, h8⟩
            have h8' := Lib.hid h8
            clear h8 h7'
            go_wp2_with fail
            go_meet
            exact ⟨j, k, a, dn, rfl, rfl, hi3.out, h8'.out.drop⟩
          · subst hcode
            have h7' := Lib.hid h7
            clear h7
            go_wp2_with fail
            refine (tn_openR h7'.out (by decide) hrdl2.out (by rw [← hod'.out])).mono ?_
            rw [← hod'.out]
            dsimp only
            rintro e w8 ⟨k', rfl, h8⟩
            have h8' := Lib.hid h8
            clear h8 h7'
            go_wp2_with fail
            go_meet
            exact ⟨j', k', _, dn, rfl, rfl, hi2.out, h8'.out.drop⟩
      case rest =>
        obtain ⟨j, k, a, d, rfl, rfl, hi2, hw2⟩ := hcut
        obtain ⟨LL, A1, c1, A2, c2, hLL, hback, hcl, hrr1, hrr2⟩ := hw2.hold
        have hinv2 := Lib.hid hi2
        have hLL := Lib.hid hLL
        have hback := Lib.hid hback
        have hcl := Lib.hid hcl
        have hrr1 := Lib.hid hrr1
        have hrr2 := Lib.hid hrr2
        have hyy : ((a.safe : Int) != (a.safe : Int)) = false := by simp
        clear hi2 hw2 h4' q0 q1 q2 q3
        go_wp2_with fail
        refine wpF_start (S := (fun w' => w'.cell? ⟨k, 2, none⟩ = some (.slice A2 a.recs.length c2) ∧ w'.cell? ⟨k, 3, none⟩ = some (.int .i64 a.safe))) (fins := []) (by kernel_rfl) ?_ (fun hHeld => ?_)
        · exact ⟨(hcl.out _ hLL.out.drew).2.2.1, (hcl.out _ hLL.out.drew).2.2.2⟩
        refine wpF_take 0 (v := ?_) hHeld (by simp only [List.getElem?_toArray, List.getElem?_cons_zero]; exact rfl) (by kernel_rfl) (by exact fun _ _ _ h => h) (by rfl) ?_ ?_
        rotate_left
        · (intro w hSw; (try dsimp only at hSw); go_simp; try with_reducible rfl)
        try simp only [Act.put, List.setIfInBounds_toArray, List.set_cons_zero, List.set_cons_succ]
        refine wpF_take 2 (v := ?_) hHeld (by simp only [List.getElem?_toArray, List.getElem?_cons_succ, List.getElem?_cons_zero]; exact rfl) (by kernel_rfl) (by exact fun _ _ _ h => h) (by rfl) ?_ ?_
        rotate_left
        · (intro w hSw; (try dsimp only at hSw); go_simp; try with_reducible rfl)
        try simp only [Act.put, List.setIfInBounds_toArray, List.set_cons_zero, List.set_cons_succ]
        refine wpF_take 3 (v := ?_) hHeld (by simp only [List.getElem?_toArray, List.getElem?_cons_succ, List.getElem?_cons_zero]; exact rfl) (by kernel_rfl) (by exact fun _ _ _ h => h) (by rfl) ?_ ?_
        rotate_left
        · (intro w hSw; (try dsimp only at hSw); go_simp; try with_reducible rfl)
        try simp only [Act.put, List.setIfInBounds_toArray, List.set_cons_zero, List.set_cons_succ]
        refine wpF_take 4 (v := ?_) hHeld (by simp only [List.getElem?_toArray, List.getElem?_cons_succ, List.getElem?_cons_zero]; exact rfl) (by kernel_rfl) (by exact fun _ _ _ h => h) (by rfl) ?_ ?_
        rotate_left
        · (intro w hSw; (try dsimp only at hSw); go_simp; try with_reducible rfl)
        try simp only [Act.put, List.setIfInBounds_toArray, List.set_cons_zero, List.set_cons_succ]
        refine wpF_take 5 (v := ?_) hHeld (by simp only [List.getElem?_toArray, List.getElem?_cons_succ, List.getElem?_cons_zero]; exact rfl) (by kernel_rfl) (by exact fun _ _ _ h => h) (by rfl) ?_ ?_
        rotate_left
        · (intro w hSw; (try dsimp only at hSw); go_simp; try with_reducible rfl)
        try simp only [Act.put, List.setIfInBounds_toArray, List.set_cons_zero, List.set_cons_succ]
        refine wpF_one 1 (by simp only [List.getElem?_toArray, List.getElem?_cons_succ, List.getElem?_cons_zero]; exact rfl) (by kernel_rfl) (fun K hK => ?_)
        go_simp
        refine (records_any (s := 0) (dead := false) hLL.out.drew (hcl.out _ hLL.out.drew).1 hrr1.out).mono ?_
        rintro e w5 ⟨A5, c5, SO5, SI5, rfl, h5, r5⟩
        refine hK _ _ ?_ (fun hHeld => ?_)
        · exact ⟨(hcl.out _ h5.drop.drop).2.2.1, (hcl.out _ h5.drop.drop).2.2.2⟩
        clear hK K
        try simp only [Act.put, List.setIfInBounds_toArray, List.set_cons_zero, List.set_cons_succ]
        refine wpF_one 6 (by simp only [List.getElem?_toArray, List.getElem?_cons_succ, List.getElem?_cons_zero]; exact rfl) (by kernel_rfl) (fun K hK => ?_)
        go_simp
        refine (rows_any h5 (r5.reads (by have := hinv2.out.recs; omega) _) ((hrr2.out.cons _).cons _)).mono ?_
        simp only [decide_true]
        rintro e w6 ⟨rfl, h6⟩
        refine hK _ _ ?_ (fun hHeld => ?_)
        · exact ⟨(hcl.out _ h6.drop.drop).2.2.1, (hcl.out _ h6.drop.drop).2.2.2⟩
        clear hK K
        try simp only [Act.put, List.setIfInBounds_toArray, List.set_cons_zero, List.set_cons_succ]
        refine wpF_take 7 (v := ?_) hHeld (by simp only [List.getElem?_toArray, List.getElem?_cons_succ, List.getElem?_cons_zero]; exact rfl) (by kernel_rfl) (by exact fun _ _ _ h => h) (by rfl) ?_ ?_
        rotate_left
        · (intro w hSw; (try dsimp only at hSw); go_simp; try with_reducible rfl)
        try simp only [Act.put, List.setIfInBounds_toArray, List.set_cons_zero, List.set_cons_succ]
        refine wpF_take 8 (v := ?_) hHeld (by simp only [List.getElem?_toArray, List.getElem?_cons_succ, List.getElem?_cons_zero]; exact rfl) (by kernel_rfl) (by exact fun _ _ _ h => h) (by rfl) ?_ ?_
        rotate_left
        · (intro w hSw; (try dsimp only at hSw); go_simp; try with_reducible rfl)
        try simp only [Act.put, List.setIfInBounds_toArray, List.set_cons_zero, List.set_cons_succ]
        refine wpF_take 9 (v := ?_) hHeld (by simp only [List.getElem?_toArray, List.getElem?_cons_succ, List.getElem?_cons_zero]; exact rfl) (by kernel_rfl) (by exact fun _ _ _ h => h) (by rfl) ?_ ?_
        rotate_left
        · (intro w hSw; (try dsimp only at hSw); go_simp; try with_reducible rfl)
        try simp only [Act.put, List.setIfInBounds_toArray, List.set_cons_zero, List.set_cons_succ]
        refine wpF_take 11 (v := ?_) hHeld (by simp only [List.getElem?_toArray, List.getElem?_cons_succ, List.getElem?_cons_zero]; exact rfl) (by kernel_rfl) (by exact fun _ _ _ h => h) (by rfl) ?_ ?_
        rotate_left
        · (intro w hSw; (try dsimp only at hSw); go_simp; try with_reducible rfl)
        try simp only [Act.put, List.setIfInBounds_toArray, List.set_cons_zero, List.set_cons_succ]
        refine wpF_take 12 (v := ?_) hHeld (by simp only [List.getElem?_toArray, List.getElem?_cons_succ, List.getElem?_cons_zero]; exact rfl) (by kernel_rfl) (by exact fun _ _ _ h => h) (by rfl) ?_ ?_
        rotate_left
        · (intro w hSw; (try dsimp only at hSw); go_simp; try with_reducible rfl)
        try simp only [Act.put, List.setIfInBounds_toArray, List.set_cons_zero, List.set_cons_succ]
        refine wpF_take 13 (v := ?_) hHeld (by simp only [List.getElem?_toArray, List.getElem?_cons_succ, List.getElem?_cons_zero]; exact rfl) (by kernel_rfl) (by exact fun _ _ _ h => h) (by rfl) ?_ ?_
        rotate_left
        · (intro w hSw; (try dsimp only at hSw); go_simp; try with_reducible rfl)
        try simp only [Act.put, List.setIfInBounds_toArray, List.set_cons_zero, List.set_cons_succ]
        refine wpF_take 14 (v := ?_) hHeld (by simp only [List.getElem?_toArray, List.getElem?_cons_succ, List.getElem?_cons_zero]; exact rfl) (by kernel_rfl) (by exact fun _ _ _ h => h) (by rfl) ?_ ?_
        rotate_left
        · (intro w hSw; (try dsimp only at hSw); go_simp; try with_reducible rfl)
        try simp only [Act.put, List.setIfInBounds_toArray, List.set_cons_zero, List.set_cons_succ]
        refine wpF_one 10 (by simp only [List.getElem?_toArray, List.getElem?_cons_succ, List.getElem?_cons_zero]; exact rfl) (by kernel_rfl) (fun K hK => ?_)
        go_simp
        refine (synced_at (hcl.out _ h6.drop.drop).2.1).mono ?_
        rintro e w7 ⟨rfl, rfl⟩
        refine hK _ _ ?_ (fun hHeld => ?_)
        · exact ⟨(hcl.out _ h6.drop.drop).2.2.1, (hcl.out _ h6.drop.drop).2.2.2⟩
        clear hK K
        try simp only [Act.put, List.setIfInBounds_toArray, List.set_cons_zero, List.set_cons_succ]
        refine wpF_take 15 (v := ?_) hHeld (by simp only [List.getElem?_toArray, List.getElem?_cons_succ, List.getElem?_cons_zero]; exact rfl) (by kernel_rfl) (by exact fun _ _ _ h => h) (by rfl) ?_ ?_
        rotate_left
        · (intro w hSw; (try dsimp only at hSw); go_simp; try with_reducible rfl)
        try simp only [Act.put, List.setIfInBounds_toArray, List.set_cons_zero, List.set_cons_succ]
        refine wpF_take 16 (v := ?_) hHeld (by simp only [List.getElem?_toArray, List.getElem?_cons_succ, List.getElem?_cons_zero]; exact rfl) (by kernel_rfl) (by exact fun _ _ _ h => h) (by rfl) ?_ ?_
        rotate_left
        · (intro w hSw; (try dsimp only at hSw); go_simp; try with_reducible rfl)
        try simp only [Act.put, List.setIfInBounds_toArray, List.set_cons_zero, List.set_cons_succ]
        refine wpF_done (by kernel_rfl) ?_
        have h8' := Lib.hid (hback.out _ h6.drop.drop)
        clear h6 h5 r5 hHeld
        go_wp2_with fail
        exact ⟨⟨i' + 1, j, k, a, d, by omega, rfl, rfl, by go_num, hinv2.out, h8'.out⟩, by simp [intOf]; omega⟩
    · obtain rfl : i' = N := by omega
      go_wp2_with fail
      refine (jawake_true hw'.out.h).mono ?_
      rintro e w9 ⟨rfl, h9⟩
      go_wp2_with fail
      go_ret
      exact ⟨rfl, h9⟩

set_option maxHeartbeats 1600000 in
theorem jacts_any {A : Option Addr} {c : Nat} {xs : List JV} (h : H W w L) (ha : JArg L A c xs) : Calls Try.prog 8 #[.slice A xs.length c] w (PTrue W L) := by
  by_cases hN : xs.length ≤ 80
  · exact jacts_walk h ha hN
  · have g1 : (80 : Int) < (xs.length : Int) := by omega
    have h' := Lib.hid h
    clear h ha hN
    go_enter Try.func8, Try.ntmps8
    go_wp2_with fail
    refine (jawake_true h'.out).mono ?_
    rintro e w9 ⟨rfl, h9⟩
    go_wp2_with fail
    go_ret
    exact ⟨rfl, h9⟩
end Go.Proofs.Ytfhoblchgeijkaa
