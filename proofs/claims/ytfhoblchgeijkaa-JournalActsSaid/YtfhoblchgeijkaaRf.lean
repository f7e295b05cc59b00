import Derived.Test.YtfhoblchgeijkaaRe
namespace Go.Proofs.Ytfhoblchgeijkaa
open Go.RowKit Go.Maps
variable {W w : World} {L T : List Seg} {v : Value} {l n bs : Bs} {b : Nat} {d : AD} {S : Seg}

set_option maxHeartbeats 1600000 in
theorem rsync_early (h : RDisk W w L b d) (g : List AF → List AF) (hb : d.existE n ≠ 0 ∨ d.writes = false) :
    Calls Try.prog 51 #[.pointer (some ⟨b, 0, none⟩), .string (bstr n)] w (PErr (d.chgE n) fun w' => RDisk W w' L b (d.chg n g)) := by
  obtain ⟨lv, SL, rs, h, hk⟩ := h
  have hH := Lib.hid h
  have hK := Lib.hid hk
  have hlen : rs.length = d.fs.length := by rw [← hk.fs, List.length_map]
  have hmiss : ∀ x : Int, d.existE n = x → x ≠ 0 → PErr (d.chgE n) (fun w' => RDisk W w' L b (d.chg n g)) (.returned (.int .i64 x)) w := by
    intro x hx hx0
    have h1 : ¬ d.existE n = 0 := by rw [hx]; exact hx0
    refine ⟨by unfold AD.chgE; rw [if_neg h1, hx], ?_⟩
    unfold AD.chg
    rw [if_neg h1]
    exact ⟨lv, SL, rs, hH.out, hK.out⟩
  by_cases h0 : n = []
  · subst h0
    have ks := empty_bstr
    have hfin := Lib.hid (hmiss 1 (by unfold AD.existE; simp) (by decide))
    clear h hk hmiss hb
    go_enter Try.func51, Try.ntmps51
    go_wp2
    go_ret
    exact hfin.out
  have ks := nonempty_bstr h0
  by_cases h1 : d.off = true
  · have c3 : w.cell? ⟨b, 3, none⟩ = some (.bool true) := by have := h.cellAt 0 0 3 rfl rfl (v := .bool d.off) rfl; rw [h1] at this; exact this
    have hfin := Lib.hid (hmiss 103 (by unfold AD.existE; simp [h0, h1]) (by decide))
    clear h hk hmiss hb
    go_enter Try.func51, Try.ntmps51
    go_wp2
    go_ret
    exact hfin.out
  have h1' : d.off = false := by simpa using h1
  have c3 : w.cell? ⟨b, 3, none⟩ = some (.bool false) := by have := h.cellAt 0 0 3 rfl rfl (v := .bool d.off) rfl; rw [h1'] at this; exact this
  have hfd := rfind (n := n) h hk.row hk.fs hk.le
  by_cases h2 : (d.find n).isNone = true
  · have hfin := Lib.hid (hmiss 6 (by unfold AD.existE; simp [h0, h1, h2]) (by decide))
    rw [show d.idx n = -1 by unfold AD.idx; rw [if_pos h2]] at hfd
    clear h hk hmiss hb
    go_enter Try.func51, Try.ntmps51
    go_wp2_with (go_at_call 54; refine hfd.mono ?_; rintro e w' ⟨rfl, rfl⟩)
    go_ret
    exact hfin.out
  · obtain ⟨k, hkl, e1, _, _, _⟩ := idx_some (Bool.eq_false_iff.2 h2)
    rw [e1] at hfd
    have hex : d.existE n = 0 := by unfold AD.existE; rw [if_neg h0, if_neg h1, if_neg h2]
    have hwv : d.writes = false := by
      rcases hb with hb | hb
      · exact absurd hex hb
      · exact hb
    have hfl := rfails h hk.left
    rw [hwv] at hfl
    have hwv' := Lib.hid hwv
    have hex' := Lib.hid hex
    clear h hk hmiss hb hwv hex e1
    go_enter Try.func51, Try.ntmps51
    go_wp2_with (first
      | (go_at_call 54; refine hfd.mono ?_; rintro e w' ⟨rfl, rfl⟩)
      | (go_at_call 65; refine hfl.mono ?_; rintro e w1 ⟨rfl, h5⟩))
    go_ret
    refine ⟨by unfold AD.chgE; rw [if_pos hex'.out, hwv'.out]; rfl, ?_⟩
    unfold AD.chg
    rw [if_pos hex'.out, hwv'.out, if_neg (by simp)]
    exact ⟨lv, SL, rs, h5, hK.out.row, hK.out.each, by rw [wrote_fs]; exact hK.out.fs, wrote_left hK.out.left, hK.out.le⟩

set_option maxHeartbeats 1600000 in
theorem rrem_early (h : RDisk W w L b d) (g : List AF → List AF) (hb : d.existE n ≠ 0 ∨ d.writes = false) :
    Calls Try.prog 53 #[.pointer (some ⟨b, 0, none⟩), .string (bstr n)] w (PErr (d.chgE n) fun w' => RDisk W w' L b (d.chg n g)) := by
  obtain ⟨lv, SL, rs, h, hk⟩ := h
  have hH := Lib.hid h
  have hK := Lib.hid hk
  have hlen : rs.length = d.fs.length := by rw [← hk.fs, List.length_map]
  have hmiss : ∀ x : Int, d.existE n = x → x ≠ 0 → PErr (d.chgE n) (fun w' => RDisk W w' L b (d.chg n g)) (.returned (.int .i64 x)) w := by
    intro x hx hx0
    have h1 : ¬ d.existE n = 0 := by rw [hx]; exact hx0
    refine ⟨by unfold AD.chgE; rw [if_neg h1, hx], ?_⟩
    unfold AD.chg
    rw [if_neg h1]
    exact ⟨lv, SL, rs, hH.out, hK.out⟩
  by_cases h0 : n = []
  · subst h0
    have ks := empty_bstr
    have hfin := Lib.hid (hmiss 1 (by unfold AD.existE; simp) (by decide))
    clear h hk hmiss hb
    go_enter Try.func53, Try.ntmps53
    go_wp2
    go_ret
    exact hfin.out
  have ks := nonempty_bstr h0
  by_cases h1 : d.off = true
  · have c3 : w.cell? ⟨b, 3, none⟩ = some (.bool true) := by have := h.cellAt 0 0 3 rfl rfl (v := .bool d.off) rfl; rw [h1] at this; exact this
    have hfin := Lib.hid (hmiss 103 (by unfold AD.existE; simp [h0, h1]) (by decide))
    clear h hk hmiss hb
    go_enter Try.func53, Try.ntmps53
    go_wp2
    go_ret
    exact hfin.out
  have h1' : d.off = false := by simpa using h1
  have c3 : w.cell? ⟨b, 3, none⟩ = some (.bool false) := by have := h.cellAt 0 0 3 rfl rfl (v := .bool d.off) rfl; rw [h1'] at this; exact this
  have hfd := rfind (n := n) h hk.row hk.fs hk.le
  by_cases h2 : (d.find n).isNone = true
  · have hfin := Lib.hid (hmiss 6 (by unfold AD.existE; simp [h0, h1, h2]) (by decide))
    rw [show d.idx n = -1 by unfold AD.idx; rw [if_pos h2]] at hfd
    clear h hk hmiss hb
    go_enter Try.func53, Try.ntmps53
    go_wp2_with (go_at_call 54; refine hfd.mono ?_; rintro e w' ⟨rfl, rfl⟩)
    go_ret
    exact hfin.out
  · obtain ⟨k, hkl, e1, _, _, _⟩ := idx_some (Bool.eq_false_iff.2 h2)
    rw [e1] at hfd
    have hex : d.existE n = 0 := by unfold AD.existE; rw [if_neg h0, if_neg h1, if_neg h2]
    have hwv : d.writes = false := by
      rcases hb with hb | hb
      · exact absurd hex hb
      · exact hb
    have hfl := rfails h hk.left
    rw [hwv] at hfl
    have hwv' := Lib.hid hwv
    have hex' := Lib.hid hex
    clear h hk hmiss hb hwv hex e1
    go_enter Try.func53, Try.ntmps53
    go_wp2_with (first
      | (go_at_call 54; refine hfd.mono ?_; rintro e w' ⟨rfl, rfl⟩)
      | (go_at_call 65; refine hfl.mono ?_; rintro e w1 ⟨rfl, h5⟩))
    go_ret
    refine ⟨by unfold AD.chgE; rw [if_pos hex'.out, hwv'.out]; rfl, ?_⟩
    unfold AD.chg
    rw [if_pos hex'.out, hwv'.out, if_neg (by simp)]
    exact ⟨lv, SL, rs, h5, hK.out.row, hK.out.each, by rw [wrote_fs]; exact hK.out.fs, wrote_left hK.out.left, hK.out.le⟩

set_option maxHeartbeats 1600000 in
theorem rtrunc_early (sz : Int) (h : RDisk W w L b d) (g : List AF → List AF) (hb : d.existE n ≠ 0 ∨ d.writes = false) :
    Calls Try.prog 50 #[.pointer (some ⟨b, 0, none⟩), .string (bstr n), .int .i64 sz] w (PErr (d.chgE n) fun w' => RDisk W w' L b (d.chg n g)) := by
  obtain ⟨lv, SL, rs, h, hk⟩ := h
  have hH := Lib.hid h
  have hK := Lib.hid hk
  have hlen : rs.length = d.fs.length := by rw [← hk.fs, List.length_map]
  have hmiss : ∀ x : Int, d.existE n = x → x ≠ 0 → PErr (d.chgE n) (fun w' => RDisk W w' L b (d.chg n g)) (.returned (.int .i64 x)) w := by
    intro x hx hx0
    have h1 : ¬ d.existE n = 0 := by rw [hx]; exact hx0
    refine ⟨by unfold AD.chgE; rw [if_neg h1, hx], ?_⟩
    unfold AD.chg
    rw [if_neg h1]
    exact ⟨lv, SL, rs, hH.out, hK.out⟩
  by_cases h0 : n = []
  · subst h0
    have ks := empty_bstr
    have hfin := Lib.hid (hmiss 1 (by unfold AD.existE; simp) (by decide))
    clear h hk hmiss hb
    go_enter Try.func50, Try.ntmps50
    go_wp2
    go_ret
    exact hfin.out
  have ks := nonempty_bstr h0
  by_cases h1 : d.off = true
  · have c3 : w.cell? ⟨b, 3, none⟩ = some (.bool true) := by have := h.cellAt 0 0 3 rfl rfl (v := .bool d.off) rfl; rw [h1] at this; exact this
    have hfin := Lib.hid (hmiss 103 (by unfold AD.existE; simp [h0, h1]) (by decide))
    clear h hk hmiss hb
    go_enter Try.func50, Try.ntmps50
    go_wp2
    go_ret
    exact hfin.out
  have h1' : d.off = false := by simpa using h1
  have c3 : w.cell? ⟨b, 3, none⟩ = some (.bool false) := by have := h.cellAt 0 0 3 rfl rfl (v := .bool d.off) rfl; rw [h1'] at this; exact this
  have hfd := rfind (n := n) h hk.row hk.fs hk.le
  by_cases h2 : (d.find n).isNone = true
  · have hfin := Lib.hid (hmiss 6 (by unfold AD.existE; simp [h0, h1, h2]) (by decide))
    rw [show d.idx n = -1 by unfold AD.idx; rw [if_pos h2]] at hfd
    clear h hk hmiss hb
    go_enter Try.func50, Try.ntmps50
    go_wp2_with (go_at_call 54; refine hfd.mono ?_; rintro e w' ⟨rfl, rfl⟩)
    go_ret
    exact hfin.out
  · obtain ⟨k, hkl, e1, _, _, _⟩ := idx_some (Bool.eq_false_iff.2 h2)
    rw [e1] at hfd
    have hex : d.existE n = 0 := by unfold AD.existE; rw [if_neg h0, if_neg h1, if_neg h2]
    have hwv : d.writes = false := by
      rcases hb with hb | hb
      · exact absurd hex hb
      · exact hb
    have hfl := rfails h hk.left
    rw [hwv] at hfl
    have hwv' := Lib.hid hwv
    have hex' := Lib.hid hex
    clear h hk hmiss hb hwv hex e1
    go_enter Try.func50, Try.ntmps50
    go_wp2_with (first
      | (go_at_call 54; refine hfd.mono ?_; rintro e w' ⟨rfl, rfl⟩)
      | (go_at_call 65; refine hfl.mono ?_; rintro e w1 ⟨rfl, h5⟩))
    go_ret
    refine ⟨by unfold AD.chgE; rw [if_pos hex'.out, hwv'.out]; rfl, ?_⟩
    unfold AD.chg
    rw [if_pos hex'.out, hwv'.out, if_neg (by simp)]
    exact ⟨lv, SL, rs, h5, hK.out.row, hK.out.each, by rw [wrote_fs]; exact hK.out.fs, wrote_left hK.out.left, hK.out.le⟩
end Go.Proofs.Ytfhoblchgeijkaa
