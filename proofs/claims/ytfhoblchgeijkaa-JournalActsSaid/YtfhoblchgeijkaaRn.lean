import Derived.Test.YtfhoblchgeijkaaRm
namespace Go.Proofs.Ytfhoblchgeijkaa
open Go.RowKit Go.Maps
variable {W w : World} {L T : List Seg} {v : Value} {l n bs t : Bs} {b : Nat} {d : AD} {S : Seg}

theorem sorted_del {fs : List AF} (hs : fs.Pairwise fun f g => bytesBefore f.name g.name = true) (n : Bs) : (delL AF.name n fs).Pairwise fun f g => bytesBefore f.name g.name = true :=
  hs.sublist List.filter_sublist
theorem del_ne (fs : List AF) (n : Bs) : ∀ f ∈ delL AF.name n fs, f.name ≠ n := by
  intro f hf
  have := (List.mem_filter.1 hf).2
  simpa using this
theorem del_none {fs : List AF} (h : (fs.find? fun f => f.name == n) = none) : delL AF.name n fs = fs := by
  unfold delL
  rw [List.filter_eq_self]
  intro f hf
  rw [List.find?_eq_none] at h
  simpa using h f hf

set_option maxHeartbeats 1600000 in
theorem rren_early (h : RDisk W w L b d) (hb : t = [] ∨ d.existE n ≠ 0 ∨ d.writes = false) :
    Calls Try.prog 52 #[.pointer (some ⟨b, 0, none⟩), .string (bstr n), .string (bstr t)] w (PErr (d.renE n t) fun w' => RDisk W w' L b (d.ren n t)) := by
  have hmiss : ∀ x : Int, d.renE n t = x → (t = [] ∨ d.existE n = x ∧ x ≠ 0) → PErr (d.renE n t) (fun w' => RDisk W w' L b (d.ren n t)) (.returned (.int .i64 x)) w := by
    intro x hx hx0
    refine ⟨by rw [hx], ?_⟩
    unfold AD.ren
    by_cases ht : t = []
    · rw [if_pos ht]; exact h
    · rw [if_neg ht]
      unfold AD.chg
      rcases hx0 with h1 | ⟨h1, h2⟩
      · exact absurd h1 ht
      · rw [if_neg (by rw [h1]; exact h2)]; exact h
  by_cases h0 : n = []
  · subst h0
    have ks := empty_bstr
    have hfin := Lib.hid (hmiss 1 (by unfold AD.renE AD.chgE AD.existE; simp) (.inr ⟨by unfold AD.existE; simp, by decide⟩))
    clear h hmiss hb
    go_enter Try.func52, Try.ntmps52
    go_wp2
    go_ret
    exact hfin.out
  have ks := nonempty_bstr h0
  by_cases ht : t = []
  · subst ht
    have ks := empty_bstr
    have hfin := Lib.hid (hmiss 1 (by unfold AD.renE; simp) (.inl rfl))
    clear h hmiss hb
    go_enter Try.func52, Try.ntmps52
    go_wp2
    go_ret
    exact hfin.out
  have ks2 := nonempty_bstr ht
  obtain ⟨lv, SL, rs, h, hk⟩ := h
  have hK := Lib.hid hk
  by_cases h1 : d.off = true
  · have c3 : w.cell? ⟨b, 3, none⟩ = some (.bool true) := by have := h.cellAt 0 0 3 rfl rfl (v := .bool d.off) rfl; rw [h1] at this; exact this
    have he : d.existE n = 103 := by unfold AD.existE; simp [h0, h1]
    have hfin := Lib.hid (hmiss 103 (by unfold AD.renE AD.chgE; rw [if_neg ht, he]; rfl) (.inr ⟨he, by decide⟩))
    clear h hk hmiss hb
    go_enter Try.func52, Try.ntmps52
    go_wp2
    go_ret
    exact hfin.out
  have h1' : d.off = false := by simpa using h1
  have c3 : w.cell? ⟨b, 3, none⟩ = some (.bool false) := by have := h.cellAt 0 0 3 rfl rfl (v := .bool d.off) rfl; rw [h1'] at this; exact this
  have hfd := rfind (n := n) h hk.row hk.fs hk.le
  by_cases h2 : (d.find n).isNone = true
  · have he : d.existE n = 6 := by unfold AD.existE; simp [h0, h1, h2]
    have hfin := Lib.hid (hmiss 6 (by unfold AD.renE AD.chgE; rw [if_neg ht, he]; rfl) (.inr ⟨he, by decide⟩))
    rw [show d.idx n = -1 by unfold AD.idx; rw [if_pos h2]] at hfd
    clear h hk hmiss hb
    go_enter Try.func52, Try.ntmps52
    go_wp2_with (go_at_call 54; refine hfd.mono ?_; rintro e w' ⟨rfl, rfl⟩)
    go_ret
    exact hfin.out
  · obtain ⟨k, hkl, e1, _, _, _⟩ := idx_some (Bool.eq_false_iff.2 h2)
    rw [e1] at hfd
    have hex : d.existE n = 0 := by unfold AD.existE; rw [if_neg h0, if_neg h1, if_neg h2]
    have hwv : d.writes = false := by
      rcases hb with hb | hb | hb
      · exact absurd hb ht
      · exact absurd hex hb
      · exact hb
    have hfl := rfails h hk.left
    rw [hwv] at hfl
    have hwv' := Lib.hid hwv
    have hex' := Lib.hid hex
    have ht' := Lib.hid ht
    clear h hk hmiss hb hwv hex e1 ht
    go_enter Try.func52, Try.ntmps52
    go_wp2_with (first
      | (go_at_call 54; refine hfd.mono ?_; rintro e w' ⟨rfl, rfl⟩)
      | (go_at_call 65; refine hfl.mono ?_; rintro e w1 ⟨rfl, h5⟩))
    go_ret
    refine ⟨by unfold AD.renE AD.chgE; rw [if_neg ht'.out, if_pos hex'.out, hwv'.out]; rfl, ?_⟩
    unfold AD.ren AD.chg
    rw [if_neg ht'.out, if_pos hex'.out, hwv'.out, if_neg (by simp)]
    exact ⟨lv, SL, rs, h5, hK.out.row, hK.out.each, by rw [wrote_fs]; exact hK.out.fs, wrote_left hK.out.left, hK.out.le⟩

set_option maxRecDepth 100000 in
set_option maxHeartbeats 6400000 in
theorem rren_good (h : RDisk W w L b d) (hs : d.sorted) (ht : t ≠ []) (hex : d.existE n = 0) (hwv : d.writes = true) :
    Calls Try.prog 52 #[.pointer (some ⟨b, 0, none⟩), .string (bstr n), .string (bstr t)] w (PErr 0 fun w' => RDisk W w' L b { d.wrote with fs := renF n t d.fs }) := by
  obtain ⟨lv, SL, rs, h, hk⟩ := h
  obtain ⟨h0, h1, _, h2⟩ := existE_zero hex
  obtain ⟨k, hkl, e1, e2, e3, e4⟩ := idx_some h2
  have hkr : k < rs.length := by rw [← hk.fs] at hkl; simpa using hkl
  have hra : d.fs[k] = rs[k].a := by simp [← hk.fs]
  have hfd := rfind (n := n) h hk.row hk.fs hk.le
  rw [e1] at hfd
  have hfl := rfails h hk.left
  rw [hwv] at hfl
  have ks := nonempty_bstr h0
  have ks2 := nonempty_bstr ht
  have c3 : w.cell? ⟨b, 3, none⟩ = some (.bool false) := by have := h.cellAt 0 0 3 rfl rfl (v := .bool d.off) rfl; rw [h1] at this; exact this
  obtain ⟨g, cap, cur, hlv, hSL, _, _, hcur⟩ := rrow hk.row (by omega)
  have hdel := erase_del d.fs hs k hkl e3
  have hok := hk.each _ (List.getElem_mem hkr)
  obtain ⟨Av, cv, hv⟩ := hok.1.form
  obtain ⟨rk, hrk⟩ : ∃ rk, rk = rs[k] := ⟨_, rfl⟩
  have hfind : d.fs.find? (fun f => f.name == n) = some rk.a := by unfold AD.find at e2; rw [e2, hra, hrk]
  rw [← hrk] at hok hv
  obtain ⟨dl, hdl⟩ : ∃ dl, rk.a.data.length = dl := ⟨_, rfl⟩
  obtain ⟨du, hdu⟩ : ∃ du, rk.a.dur = du := ⟨_, rfl⟩
  rw [hdl] at hv
  have hcells : rs[k].cells = [.string (bstr rk.a.name), .slice Av dl cv, .int .i64 du] := by rw [← hrk]; unfold RF.cells; rw [hv, hdu]
  have hki : (k : Int) < (rs.length : Int) := by omega
  subst hlv
  have hc0 := Lib.hid (hcur k hkr 0 (by decide))
  have hc1 := Lib.hid (hcur k hkr 1 (by decide))
  have hc2 := Lib.hid (hcur k hkr 2 (by decide))
  rw [hcells] at hc0 hc1 hc2
  have hSL' := Lib.hid hSL
  have hK := Lib.hid hk
  have hdel' := Lib.hid hdel
  have hkr' := Lib.hid hkr
  have hrk' := Lib.hid hrk
  have hs' := Lib.hid hs
  have hok' := Lib.hid hok
  have hv' := Lib.hid hv
  have hfind' := Lib.hid hfind
  have hdl' := Lib.hid hdl
  have hdu' := Lib.hid hdu
  clear h hk hdel e2 e3 e4 h1 h2 hs hcur hSL hcells hok hv hfind hra hdl hdu hrk
  go_enter Try.func52, Try.ntmps52
  go_wp2_with (first
    | (go_at_call 54; refine hfd.mono ?_; rintro e w' ⟨rfl, rfl⟩)
    | (go_at_call 65; refine hfl.mono ?_; rintro e w1 ⟨rfl, h1⟩
       have m0 : w1.cell? ⟨b, 0, none⟩ = some (.slice (some ⟨g, 0, none⟩) rs.length cap) := h1.cellAt 0 0 0 rfl rfl rfl
       have m1 : w1.cell? ⟨g, k * 3, none⟩ = some (.string (bstr rk.a.name)) := h1.cellAt 1 0 (k * 3) (by rw [hSL'.out]; rfl) rfl (by have := hc0.out; rw [Nat.add_zero] at this; exact this)
       have m2 : w1.cell? ⟨g, k * 3 + 1, none⟩ = some (.slice Av dl cv) := h1.cellAt 1 0 (k * 3 + 1) (by rw [hSL'.out]; rfl) rfl hc1.out
       have m3 : w1.cell? ⟨g, k * 3 + 2, none⟩ = some (.int .i64 du) := h1.cellAt 1 0 (k * 3 + 2) (by rw [hSL'.out]; rfl) rfl hc2.out
       have h1' := Lib.hid h1
       clear h1))
  obtain ⟨rs1, hrs1⟩ : ∃ rs1, rs1 = rs.take k ++ rs.drop (k + 1) := ⟨_, rfl⟩
  have hdp := rdrop (N := rs.length) rfl (h1'.out.alloc (.cells #[.string (bstr rk.a.name), .slice Av dl cv, .int .i64 du] 89)).tail3 hK.out.row hK.out.each hK.out.le hkr'.out
  rw [← hrk'.out, ← hrs1] at hdp
  refine hdp.mono ?_
  rintro e w2 ⟨rfl, lv2, SL2, h3, h4⟩
  have hfs1 : rs1.map RF.a = delL AF.name n d.fs := by rw [hrs1, ← hdel'.out, ← hK.out.fs, List.map_append, List.map_take, List.map_drop]
  have hok1 : ∀ q ∈ rs1, q.ok := by
    intro q hq
    rw [hrs1] at hq
    rcases List.mem_append.1 hq with hq | hq
    · exact hK.out.each q (List.mem_of_mem_take hq)
    · exact hK.out.each q (List.mem_of_mem_drop hq)
  have hl1 : rs1.length + 1 = rs.length := by have := hkr'.out; rw [hrs1, List.length_append, List.length_take, List.length_drop]; omega
  have hle1 : rs1.length ≤ 1099511627776 := by have := hK.out.le; omega
  have hfd2 := rfind (n := t) (d := { d.wrote with fs := delL AF.name n d.fs }) (show H W w2 (rhdr b d.wrote lv2 :: SL2 :: rdatas rs1 :: rk.S :: [(w1.heap.size, .cells #[.string (bstr rk.a.name), .slice Av dl cv, .int .i64 du] 89 (0, 0))] :: L) from h3) h4 hfs1 hle1
  have h3' := Lib.hid (show H W w2 (rhdr b d.wrote lv2 :: SL2 :: rdatas rs1 :: rk.S :: [(w1.heap.size, .cells #[.string (bstr rk.a.name), .slice Av dl cv, .int .i64 du] 89 (0, 0))] :: L) from h3)
  have h4' := Lib.hid h4
  have hfs1' := Lib.hid hfs1
  have hok1' := Lib.hid hok1
  have hl1' := Lib.hid hl1
  have hs1 := Lib.hid (sorted_del hs'.out n)
  clear h3 h4 hfs1 hok1 hl1 hrs1 hdp m0 m1 m2 m3
  by_cases hft : (AD.find { d.wrote with fs := delL AF.name n d.fs } t).isNone = true
  · rw [show AD.idx { d.wrote with fs := delL AF.name n d.fs } t = -1 by unfold AD.idx; rw [if_pos hft]] at hfd2
    obtain ⟨rs2, hrs2⟩ : ∃ rs2, rs2 = rs1 := ⟨_, rfl⟩
    obtain ⟨lv3, hlv3⟩ : ∃ lv3, lv3 = lv2 := ⟨_, rfl⟩
    obtain ⟨SL3, hSL3⟩ : ∃ SL3, SL3 = SL2 := ⟨_, rfl⟩
    obtain ⟨w3, hw3⟩ : ∃ w3, w3 = w2 := ⟨_, rfl⟩
    have h5' := h3'
    have r5' := h4'
    have g5 := hfs1'
    have g6 := hok1'
    have g7 := Lib.hid (show rs2.length ≤ rs1.length by rw [hrs2]; exact Nat.le_refl _)
    rw [← hrs2, ← hlv3, ← hSL3, ← hw3] at h5'
    rw [← hrs2, ← hlv3, ← hSL3] at r5'
    rw [← hrs2] at g5 g6
    have hdn : delL AF.name t (delL AF.name n d.fs) = delL AF.name n d.fs := del_none (by simpa [AD.find] using hft)
    rw [← hdn] at g5
    have hg7 : rs1.length + 1 = rs.length := hl1'.out
    rw [← hrs2] at hg7
    have g7 := Lib.hid hg7
    rw [← hw3] at hfd2 ⊢
    clear hrs2 hlv3 hSL3 hw3 hdn hg7 hft
    have n0 : w3.cell? ⟨w1.heap.size, 0, none⟩ = some (.string (bstr rk.a.name)) := h5'.out.cellAt 4 0 0 rfl rfl rfl
    have n1 : w3.cell? ⟨w1.heap.size, 1, none⟩ = some (.slice Av dl cv) := h5'.out.cellAt 4 0 1 rfl rfl rfl
    have n2 : w3.cell? ⟨w1.heap.size, 2, none⟩ = some (.int .i64 du) := h5'.out.cellAt 4 0 2 rfl rfl rfl
    have n3 : w3.frozen? ⟨w1.heap.size, 0, none⟩ = false := h5'.out.freeAt 4 0 0 rfl rfl
    go_wp2_with (go_at_call 54; refine hfd2.mono ?_; rintro e w' ⟨rfl, rfl⟩)
    have h7 : H W (w3.setCell ⟨w1.heap.size, 0, none⟩ (.string (bstr t))) ([(w1.heap.size, .cells #[.string (bstr t), .slice Av dl cv, .int .i64 du] 89 (0, 0))] :: rhdr b d.wrote lv3 :: SL3 :: rdatas rs2 :: rk.S :: L) := (h5'.out.pick 4 rfl).setCell 0 (.string (bstr t))
    have hrok : (⟨⟨t, rk.a.data, du⟩, .slice Av dl cv, rk.S⟩ : RF).ok := ⟨by have := hok'.out.1; rw [hv'.out] at this; exact this, hok'.out.2.1, by have := hok'.out.2.2; rw [hdu'.out] at this; exact this⟩
    have hpt := rput (d := { d.wrote with fs := delL AF.name t (delL AF.name n d.fs) }) (r := ⟨⟨t, rk.a.data, du⟩, .slice Av dl cv, rk.S⟩) (k0 := putIdx t (delL AF.name t (delL AF.name n d.fs)))
      (show H W (w3.setCell ⟨w1.heap.size, 0, none⟩ (.string (bstr t))) (rhdr b d.wrote lv3 :: SL3 :: rdatas rs2 :: rk.S :: [(w1.heap.size, .cells #[.string (bstr t), .slice Av dl cv, .int .i64 du] 89 (0, 0))] :: L) from h7.re (by intro c hc h0; simp only [List.flatten_cons, hc]; omega))
      r5'.out g5.out g6.out hrok (by have := hK.out.le; have := g7.out; have := hkr'.out; omega) rfl
    have hpt' := Lib.hid hpt
    clear hpt h7 hrok
    go_wp2_with fail
    refine hpt'.out.mono ?_
    rintro e w4 ⟨rfl, lv4, SL4, h8, r8⟩
    have h8' := Lib.hid h8
    have r8' := Lib.hid r8
    clear h8 r8 hpt'
    go_wp2_with fail
    go_ret
    have hl : (rs2.take (putIdx t (delL AF.name t (delL AF.name n d.fs))) ++ (⟨⟨t, rk.a.data, du⟩, .slice Av dl cv, rk.S⟩ : RF) :: rs2.drop (putIdx t (delL AF.name t (delL AF.name n d.fs)))).length = rs2.length + 1 := by
      simp; omega
    refine ⟨rfl, lv4, SL4, _, ?_, ⟨by rw [hl]; exact r8'.out, ?_, ?_, wrote_left hK.out.left, ?_⟩⟩
    · rw [rhdr_fs]
      have h9 := h8'.out
      rw [rhdr_fs] at h9
      exact (show H W w4 (rhdr b d.wrote lv4 :: SL4 :: rdatas (rs2.take (putIdx t (delL AF.name t (delL AF.name n d.fs))) ++ (⟨⟨t, rk.a.data, du⟩, .slice Av dl cv, rk.S⟩ : RF) :: rs2.drop (putIdx t (delL AF.name t (delL AF.name n d.fs)))) :: [(w1.heap.size, .cells #[.string (bstr t), .slice Av dl cv, .int .i64 du] 89 (0, 0))] :: L) from h9).pick 3 rfl |>.drop
    · intro q hq
      rcases List.mem_append.1 hq with hq | hq
      · exact g6.out q (List.mem_of_mem_take hq)
      · rcases List.mem_cons.1 hq with rfl | hq
        · exact ⟨by have := hok'.out.1; rw [hv'.out] at this; exact this, hok'.out.2.1, by have := hok'.out.2.2; rw [hdu'.out] at this; exact this⟩
        · exact g6.out q (List.mem_of_mem_drop hq)
    · show _ = renF n t d.fs
      unfold renF
      rw [hfind'.out]
      simp only
      have hp := put_ins (⟨t, rk.a.data, du⟩ : AF) (delL AF.name t (delL AF.name n d.fs)) (del_ne _ t)
      simp only at hp
      rw [hdu'.out, ← hp, ← g5.out]
      simp only [List.map_append, List.map_cons, List.map_take, List.map_drop]
    · rw [hl]; have := hK.out.le; have := g7.out; have := hkr'.out; omega
  · obtain ⟨k2, hkl2, u1, u2, u3, u4⟩ := idx_some (Bool.eq_false_iff.2 hft)
    rw [u1] at hfd2
    have hkr2 : k2 < rs1.length := by have := hfs1'.out; have h9 := congrArg List.length this; rw [List.length_map] at h9; simp only at hkl2; omega
    obtain ⟨g2, cap2, cur2, hlv2, _, _, _, _⟩ := rrow h4'.out (by omega)
    subst hlv2
    have hdel2 := erase_del (delL AF.name n d.fs) hs1.out k2 hkl2 u3
    have hdp2 := Lib.hid (rdrop (N := rs1.length) rfl h3'.out h4'.out hok1'.out hle1 hkr2)
    have hk2i : (0 : Int) ≤ (k2 : Int) := by omega
    have hdel2' := Lib.hid hdel2
    have hkr2' := Lib.hid hkr2
    clear u2 u3 u4 hft hdel2
    go_wp2_with (go_at_call 54; refine hfd2.mono ?_; rintro e w' ⟨rfl, rfl⟩)
    refine hdp2.out.mono ?_
    rintro e w3 ⟨rfl, lv3, SL3, h5, r5⟩
    obtain ⟨rs2, hrs2⟩ : ∃ rs2, rs2 = rs1.take k2 ++ rs1.drop (k2 + 1) := ⟨_, rfl⟩
    rw [← hrs2] at h5 r5
    have h5' := Lib.hid (show H W w3 (rhdr b d.wrote lv3 :: SL3 :: rdatas rs2 :: rk.S :: [(w1.heap.size, .cells #[.string (bstr rk.a.name), .slice Av dl cv, .int .i64 du] 89 (0, 0))] :: L) from
      (show H W w3 (rhdr b d.wrote lv3 :: SL3 :: rdatas rs2 :: rs1[k2].S :: rk.S :: [(w1.heap.size, .cells #[.string (bstr rk.a.name), .slice Av dl cv, .int .i64 du] 89 (0, 0))] :: L) from h5).pick 3 rfl |>.drop)
    have r5' := Lib.hid r5
    have g5 := Lib.hid (show rs2.map RF.a = delL AF.name t (delL AF.name n d.fs) by rw [hrs2, ← hdel2'.out, ← hfs1'.out, List.map_append, List.map_take, List.map_drop])
    have g6 := Lib.hid (show ∀ q ∈ rs2, q.ok by
      intro q hq
      rw [hrs2] at hq
      rcases List.mem_append.1 hq with hq | hq
      · exact hok1'.out q (List.mem_of_mem_take hq)
      · exact hok1'.out q (List.mem_of_mem_drop hq))
    have g7 := Lib.hid (show rs2.length + 1 ≤ rs.length by have := hkr2'.out; have := hl1'.out; rw [hrs2, List.length_append, List.length_take, List.length_drop]; omega)
    clear h5 r5 hrs2 hdp2 hfd2
    have n0 : w3.cell? ⟨w1.heap.size, 0, none⟩ = some (.string (bstr rk.a.name)) := h5'.out.cellAt 4 0 0 rfl rfl rfl
    have n1 : w3.cell? ⟨w1.heap.size, 1, none⟩ = some (.slice Av dl cv) := h5'.out.cellAt 4 0 1 rfl rfl rfl
    have n2 : w3.cell? ⟨w1.heap.size, 2, none⟩ = some (.int .i64 du) := h5'.out.cellAt 4 0 2 rfl rfl rfl
    have n3 : w3.frozen? ⟨w1.heap.size, 0, none⟩ = false := h5'.out.freeAt 4 0 0 rfl rfl
    have h7 : H W (w3.setCell ⟨w1.heap.size, 0, none⟩ (.string (bstr t))) ([(w1.heap.size, .cells #[.string (bstr t), .slice Av dl cv, .int .i64 du] 89 (0, 0))] :: rhdr b d.wrote lv3 :: SL3 :: rdatas rs2 :: rk.S :: L) := (h5'.out.pick 4 rfl).setCell 0 (.string (bstr t))
    have hrok : (⟨⟨t, rk.a.data, du⟩, .slice Av dl cv, rk.S⟩ : RF).ok := ⟨by have := hok'.out.1; rw [hv'.out] at this; exact this, hok'.out.2.1, by have := hok'.out.2.2; rw [hdu'.out] at this; exact this⟩
    have hpt := rput (d := { d.wrote with fs := delL AF.name t (delL AF.name n d.fs) }) (r := ⟨⟨t, rk.a.data, du⟩, .slice Av dl cv, rk.S⟩) (k0 := putIdx t (delL AF.name t (delL AF.name n d.fs)))
      (show H W (w3.setCell ⟨w1.heap.size, 0, none⟩ (.string (bstr t))) (rhdr b d.wrote lv3 :: SL3 :: rdatas rs2 :: rk.S :: [(w1.heap.size, .cells #[.string (bstr t), .slice Av dl cv, .int .i64 du] 89 (0, 0))] :: L) from h7.re (by intro c hc h0; simp only [List.flatten_cons, hc]; omega))
      r5'.out g5.out g6.out hrok (by have := hK.out.le; have := g7.out; have := hkr'.out; omega) rfl
    have hpt' := Lib.hid hpt
    clear hpt h7 hrok
    go_wp2_with fail
    refine hpt'.out.mono ?_
    rintro e w4 ⟨rfl, lv4, SL4, h8, r8⟩
    have h8' := Lib.hid h8
    have r8' := Lib.hid r8
    clear h8 r8 hpt'
    go_wp2_with fail
    go_ret
    have hl : (rs2.take (putIdx t (delL AF.name t (delL AF.name n d.fs))) ++ (⟨⟨t, rk.a.data, du⟩, .slice Av dl cv, rk.S⟩ : RF) :: rs2.drop (putIdx t (delL AF.name t (delL AF.name n d.fs)))).length = rs2.length + 1 := by
      simp; omega
    refine ⟨rfl, lv4, SL4, _, ?_, ⟨by rw [hl]; exact r8'.out, ?_, ?_, wrote_left hK.out.left, ?_⟩⟩
    · rw [rhdr_fs]
      have h9 := h8'.out
      rw [rhdr_fs] at h9
      exact (show H W w4 (rhdr b d.wrote lv4 :: SL4 :: rdatas (rs2.take (putIdx t (delL AF.name t (delL AF.name n d.fs))) ++ (⟨⟨t, rk.a.data, du⟩, .slice Av dl cv, rk.S⟩ : RF) :: rs2.drop (putIdx t (delL AF.name t (delL AF.name n d.fs)))) :: [(w1.heap.size, .cells #[.string (bstr t), .slice Av dl cv, .int .i64 du] 89 (0, 0))] :: L) from h9).pick 3 rfl |>.drop
    · intro q hq
      rcases List.mem_append.1 hq with hq | hq
      · exact g6.out q (List.mem_of_mem_take hq)
      · rcases List.mem_cons.1 hq with rfl | hq
        · exact ⟨by have := hok'.out.1; rw [hv'.out] at this; exact this, hok'.out.2.1, by have := hok'.out.2.2; rw [hdu'.out] at this; exact this⟩
        · exact g6.out q (List.mem_of_mem_drop hq)
    · show _ = renF n t d.fs
      unfold renF
      rw [hfind'.out]
      simp only
      have hp := put_ins (⟨t, rk.a.data, du⟩ : AF) (delL AF.name t (delL AF.name n d.fs)) (del_ne _ t)
      simp only at hp
      rw [hdu'.out, ← hp, ← g5.out]
      simp only [List.map_append, List.map_cons, List.map_take, List.map_drop]
    · rw [hl]; have := hK.out.le; have := g7.out; have := hkr'.out; omega
end Go.Proofs.Ytfhoblchgeijkaa
