import Derived.Test.YtfhoblchgeijkaaRi
namespace Go.Proofs.Ytfhoblchgeijkaa
open Go.RowKit Go.Maps
variable {W w : World} {L T : List Seg} {v : Value} {l n bs : Bs} {b : Nat} {d : AD} {S : Seg}

set_option maxHeartbeats 800000 in
theorem rapp_disk {vb : Value} (h : RDisk W w L b d) (hr : RL L vb bs) (hbs : bs.length ≤ 1099511627776) (hroom : d.room bs.length) (hlt : d.fs.length < 1099511627776) :
    Calls Try.prog 35 #[.pointer (some ⟨b, 0, none⟩), .string (bstr n), vb] w (PErr (d.appE n) fun w' => RDisk W w' L b (d.app n bs)) := by
  by_cases hoe : d.openE n = 0
  · cases hs : (d.find n).isNone with
    | true => exact rapp_new h hr hbs hroom hlt hoe hs
    | false => exact rapp_found h hr hbs hroom hoe hs
  have hfin : PErr (d.appE n) (fun w' => RDisk W w' L b (d.app n bs)) (.returned (.int .i64 (d.openE n))) w := by
    refine ⟨by unfold AD.appE; rw [if_neg hoe], ?_⟩
    unfold AD.app; rw [if_neg hoe]; exact h
  obtain ⟨lv, SL, rs, h, hk⟩ := h
  by_cases h0 : n = []
  · subst h0
    have ks := empty_bstr
    rw [show d.openE [] = 1 by unfold AD.openE; simp] at hfin
    have hfin' := Lib.hid hfin
    clear h hk hfin hr hroom hoe hbs hlt
    go_enter Try.func35, Try.ntmps35
    go_wp2
    go_ret
    exact hfin'.out
  have ks := nonempty_bstr h0
  have h1 : d.off = true := by
    unfold AD.openE at hoe
    cases ho : d.off with
    | true => rfl
    | false => rw [if_neg h0, ho] at hoe; simp at hoe
  have c3 : w.cell? ⟨b, 3, none⟩ = some (.bool true) := by have := h.cellAt 0 0 3 rfl rfl (v := .bool d.off) rfl; rw [h1] at this; exact this
  rw [show d.openE n = 103 by unfold AD.openE; rw [if_neg h0, if_pos h1]] at hfin
  have hfin' := Lib.hid hfin
  clear h hk hfin hr hroom hoe hbs hlt
  go_enter Try.func35, Try.ntmps35
  go_wp2
  go_ret
  exact hfin'.out

theorem rchg_split {F : Nat} {args : Array Value} {g : List AF → List AF}
    (h1 : (d.existE n ≠ 0 ∨ d.writes = false) → Calls Try.prog F args w (PErr (d.chgE n) fun w' => RDisk W w' L b (d.chg n g)))
    (h2 : d.existE n = 0 → d.writes = true → Calls Try.prog F args w (PErr 0 fun w' => RDisk W w' L b { d.wrote with fs := g d.fs })) :
    Calls Try.prog F args w (PErr (d.chgE n) fun w' => RDisk W w' L b (d.chg n g)) := by
  by_cases he : d.existE n = 0
  · cases hw : d.writes with
    | false => exact h1 (.inr hw)
    | true =>
      refine (h2 he hw).mono ?_
      rintro e w' ⟨rfl, h3⟩
      refine ⟨by unfold AD.chgE; rw [if_pos he, hw]; rfl, ?_⟩
      unfold AD.chg
      rw [if_pos he, hw, if_pos rfl]
      exact h3
  · exact h1 (.inl he)

theorem rsync_disk (h : RDisk W w L b d) : Calls Try.prog 51 #[.pointer (some ⟨b, 0, none⟩), .string (bstr n)] w (PErr (d.chgE n) fun w' => RDisk W w' L b (d.chg n (syncF n))) :=
  rchg_split (rsync_early h (syncF n)) (rsync_good h)

/-- The files of a disk, each name once. -/
def AD.sorted (d : AD) : Prop := d.fs.Pairwise fun f g => bytesBefore f.name g.name = true

theorem erase_del (fs : List AF) (hs : fs.Pairwise fun f g => bytesBefore f.name g.name = true) (k : Nat) (hk : k < fs.length) (hn : fs[k].name = n) : fs.take k ++ fs.drop (k + 1) = delL AF.name n fs := by
  induction fs generalizing k with
  | nil => simp at hk
  | cons f r ih =>
    obtain ⟨h1, h2⟩ := List.pairwise_cons.1 hs
    cases k with
    | zero =>
      simp only [List.getElem_cons_zero] at hn
      have : delL AF.name n r = r := by
        unfold delL
        rw [List.filter_eq_self]
        intro g hg
        have h3 := h1 g hg
        have : ¬ g.name = n := fun e => by rw [e, ← hn, bb_irr] at h3; cases h3
        simpa using this
      unfold delL at this ⊢
      rw [List.filter_cons, this]
      simp [hn]
    | succ k =>
      simp only [List.getElem_cons_succ] at hn
      have h3 := ih h2 k (by simpa using hk) hn
      have hne : ¬ f.name = n := fun e => by
        have hk2 : k < r.length := by simpa using hk
        have h4 := h1 (r[k]'hk2) (List.getElem_mem hk2)
        rw [e, hn, bb_irr] at h4; cases h4
      unfold delL at h3 ⊢
      rw [List.filter_cons]
      simp [hne, h3]

theorem Disk.sorted (h : Disk W w L b d) : d.sorted := by
  obtain ⟨M, SM, rs, h1, h2⟩ := h
  have := h2.map.sorted Try.underlying9
  unfold AD.sorted
  rw [← h2.fs]
  rw [List.pairwise_map] at this ⊢
  exact this

set_option maxHeartbeats 1600000 in
theorem rrem_good (h : RDisk W w L b d) (hs : d.sorted) (hex : d.existE n = 0) (hwv : d.writes = true) :
    Calls Try.prog 53 #[.pointer (some ⟨b, 0, none⟩), .string (bstr n)] w (PErr 0 fun w' => RDisk W w' L b { d.wrote with fs := remF n d.fs }) := by
  obtain ⟨lv, SL, rs, h, hk⟩ := h
  obtain ⟨h0, h1, _, h2⟩ := existE_zero hex
  obtain ⟨k, hkl, e1, e2, e3, e4⟩ := idx_some h2
  have hkr : k < rs.length := by rw [← hk.fs] at hkl; simpa using hkl
  have hfd := rfind (n := n) h hk.row hk.fs hk.le
  rw [e1] at hfd
  have hfl := rfails h hk.left
  rw [hwv] at hfl
  have ks := nonempty_bstr h0
  have c3 : w.cell? ⟨b, 3, none⟩ = some (.bool false) := by have := h.cellAt 0 0 3 rfl rfl (v := .bool d.off) rfl; rw [h1] at this; exact this
  obtain ⟨g, cap, cur, hlv, _, _, _, _⟩ := rrow hk.row (by omega)
  have hdel := erase_del d.fs hs k hkl e3
  subst hlv
  have hK := Lib.hid hk
  have hdel' := Lib.hid hdel
  have hkr' := Lib.hid hkr
  clear h hk hdel e2 e3 e4 h1 h2 hs
  go_enter Try.func53, Try.ntmps53
  go_wp2_with (first
    | (go_at_call 54; refine hfd.mono ?_; rintro e w' ⟨rfl, rfl⟩)
    | (go_at_call 65; refine hfl.mono ?_; rintro e w1 ⟨rfl, h1⟩)
    | (go_at_call 72; refine (rdrop (N := rs.length) rfl h1 hK.out.row hK.out.each hK.out.le hkr'.out).mono ?_; rintro e w2 ⟨rfl, lv2, SL2, h3, h4⟩))
  go_ret
  refine ⟨rfl, lv2, SL2, _, ?_, ⟨h4, ?_, ?_, wrote_left hK.out.left, ?_⟩⟩
  · rw [rhdr_fs]; exact (show H W _ (rhdr b d.wrote lv2 :: SL2 :: rdatas (rs.take k ++ rs.drop (k + 1)) :: rs[k].S :: L) from h3).pick 3 rfl |>.drop
  · intro q hq
    rcases List.mem_append.1 hq with hq | hq
    · exact hK.out.each q (List.mem_of_mem_take hq)
    · exact hK.out.each q (List.mem_of_mem_drop hq)
  · show _ = remF n d.fs
    unfold remF
    rw [← hdel'.out, ← hK.out.fs, List.map_append, List.map_take, List.map_drop]
  · have := hK.out.le
    rw [List.length_append, List.length_take, List.length_drop]; omega

theorem rrem_disk (h : RDisk W w L b d) (hs : d.sorted) : Calls Try.prog 53 #[.pointer (some ⟨b, 0, none⟩), .string (bstr n)] w (PErr (d.chgE n) fun w' => RDisk W w' L b (d.chg n (remF n))) :=
  rchg_split (rrem_early h (remF n)) (rrem_good h hs)
end Go.Proofs.Ytfhoblchgeijkaa
