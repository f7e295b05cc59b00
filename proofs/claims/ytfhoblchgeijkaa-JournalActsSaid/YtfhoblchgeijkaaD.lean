import Derived.Test.YtfhoblchgeijkaaC
namespace Go.Proofs.Ytfhoblchgeijkaa
open Go.RowKit Go.Maps
variable {W w : World} {L : List Seg} {v : Value} {l n : Bs} {b M : Nat} {d : AD} {SM X S : Seg} {rs rs1 rs2 : List FR} {r : FR}

def fhdr (r : FR) : Seg := [(r.blk, .cells #[r.v, .int .i64 r.a.dur] 77 (0, 0))]
theorem frs_mid : frs (rs1 ++ r :: rs2) = frs rs1 ++ ((fhdr r ++ r.S) ++ frs rs2) := by simp [frs, FR.seg, fhdr]

theorem H.tail3 {A B C : Seg} (h : H W w (S :: A :: B :: C :: L)) : H W w (A :: B :: C :: S :: L) := ((h.pick 3 rfl).pick 3 rfl).pick 3 rfl
theorem H.head3 {A B C : Seg} (h : H W w (A :: B :: C :: S :: L)) : H W w (S :: A :: B :: C :: L) := h.pick 3 rfl

theorem frs_open (h : H W w (X :: SM :: frs (rs1 ++ r :: rs2) :: L)) : H W w (fhdr r :: r.S :: frs rs2 :: frs rs1 :: X :: SM :: L) := by
  rw [frs_mid] at h
  exact (((h.pick 2 rfl).split).swap.split).split
theorem frs_shut (h : H W w (fhdr r :: r.S :: frs rs2 :: frs rs1 :: X :: SM :: L)) : H W w (X :: SM :: frs (rs1 ++ r :: rs2) :: L) := by
  have h2 := h.join.join.swap.join
  rw [← frs_mid] at h2
  exact ((h2.pick 1 rfl).pick 2 rfl).swap

theorem found (rs : List FR) (n : Bs) {x : Nat} (h : findB (rs.map FR.nb) n = some x) : ∃ rs1 r rs2, rs = rs1 ++ r :: rs2 ∧ r.blk = x ∧ r.a.name = n ∧ ∀ s ∈ rs1, s.a.name ≠ n := by
  unfold findB at h
  rw [List.find?_map] at h
  simp only [Option.map_eq_some_iff] at h
  obtain ⟨p, ⟨r, hr, rfl⟩, rfl⟩ := h
  obtain ⟨h1, rs1, rs2, h2, h3⟩ := List.find?_eq_some_iff_append.1 hr
  refine ⟨rs1, r, rs2, h2, rfl, by simpa [FR.nb] using h1, fun s hs => ?_⟩
  simpa [FR.nb] using h3 s hs

theorem find_mid (hfs : (rs1 ++ r :: rs2).map FR.a = d.fs) (hn : r.a.name = n) (h1 : ∀ s ∈ rs1, s.a.name ≠ n) : d.find n = some r.a := by
  unfold AD.find
  rw [← hfs, List.map_append, List.find?_append]
  have : (rs1.map FR.a).find? (fun f => f.name == n) = none := by
    rw [List.find?_eq_none]
    intro x hx
    obtain ⟨s, hs, rfl⟩ := List.mem_map.1 hx
    simpa using h1 s hs
  rw [this]
  simp [hn]

/-- What a file holds; nothing where there is none. -/
def AD.rd (d : AD) (n : Bs) : Bs := if d.existE n = 0 then ((d.find n).map AF.data).getD [] else []

def PRead (W : World) (L : List Seg) (b : Nat) (d : AD) (n : Bs) (e : Ending) (w' : World) : Prop :=
  ∃ A cap S, e = .returned (.tuple #[.slice A (d.rd n).length cap, .int .i64 (d.existE n)]) ∧ Disk W w' (S :: L) b d ∧ OB (.slice A (d.rd n).length cap) (d.rd n) S

set_option maxHeartbeats 400000 in
theorem read_miss {x : Int} (hop : Calls Try.prog 45 #[.pointer (some ⟨b, 0, none⟩), .string (bstr n)] w (POpen none x fun w' => w = w')) (hx : x ≠ 0) :
    Calls Try.prog 15 #[.pointer (some ⟨b, 0, none⟩), .string (bstr n)] w fun e w' => e = .returned (.tuple #[.slice none 0 0, .int .i64 x]) ∧ w = w' := by
  have hc' : (x != 0) = true := by simpa using hx
  go_enter Try.func15, Try.ntmps15
  go_wp2_with (go_at_call 45; refine hop.mono ?_; rintro e w1 ⟨rfl, rfl⟩; unfold ptrV)
  go_ret2
  exact ⟨rfl, rfl⟩

set_option maxHeartbeats 400000 in
theorem read_hit {x : Nat} (hop : Calls Try.prog 45 #[.pointer (some ⟨b, 0, none⟩), .string (bstr n)] w (POpen (some x) 0 fun w' => w = w')) (h : H W w L) (hr : RL L v l) (c0 : w.cell? ⟨x, 0, none⟩ = some v) :
    Calls Try.prog 15 #[.pointer (some ⟨b, 0, none⟩), .string (bstr n)] w fun e w' => ∃ A cap S, e = .returned (.tuple #[.slice A l.length cap, .int .i64 0]) ∧ H W w' (S :: L) ∧ OB (.slice A l.length cap) l S := by
  have h' := Lib.hid h
  have hr' := Lib.hid hr
  clear h hr
  go_enter Try.func15, Try.ntmps15
  go_wp2_with (first
    | (go_at_call 45; refine hop.mono ?_; rintro e w1 ⟨rfl, rfl⟩; unfold ptrV)
    | (go_at_call 46; refine (bclone h'.out hr'.out).mono ?_; rintro e w2 ⟨A, cap, S, rfl, h2, h3⟩))
  go_ret2
  exact ⟨A, cap, S, rfl, h2, h3⟩

theorem existE_zero (h : d.existE n = 0) : n ≠ [] ∧ d.off = false ∧ d.openE n = 0 ∧ (d.find n).isNone = false := by
  unfold AD.existE at h
  unfold AD.openE
  by_cases h0 : n = []
  · simp [h0] at h
  · by_cases h1 : d.off = true
    · simp [h0, h1] at h
    · by_cases h2 : (d.find n).isNone = true
      · simp [h0, h1, h2] at h
      · refine ⟨h0, by simpa using h1, by simp [h0, h1], Bool.eq_false_iff.2 h2⟩

theorem existE_open (h : d.existE n = 0) : openB d rs n = findB (rs.map FR.nb) n := by
  obtain ⟨_, _, h3, _⟩ := existE_zero h
  unfold openB
  rw [if_pos h3]

theorem openB_none (hfs : rs.map FR.a = d.fs) (h : d.existE n ≠ 0) : openB d rs n = none := by
  unfold openB
  split
  · rename_i ho
    have hf := find_asF (d := d) rs n hfs
    unfold AD.existE at h
    unfold AD.openE at ho
    cases hc : findB (rs.map FR.nb) n with
    | none => rfl
    | some x =>
      rw [hc] at hf
      by_cases h0 : n = []
      · simp [h0] at ho
      · by_cases h1 : d.off = true
        · simp [h0, h1] at ho
        · simp [h0, h1] at h
          rw [h] at hf
          simp at hf
  · rfl

/-- A file that is there, opened. -/
theorem DOk.open (h : H W w (X :: SM :: frs rs :: L)) (hk : DOk d M SM rs) (he : d.existE n = 0) :
    ∃ rs1 r rs2, rs = rs1 ++ r :: rs2 ∧ openB d rs n = some r.blk ∧ r.a.name = n ∧ (∀ s ∈ rs1, s.a.name ≠ n) ∧ d.find n = some r.a ∧ r.ok ∧ H W w (fhdr r :: r.S :: frs rs2 :: frs rs1 :: X :: SM :: L) := by
  have h1 := existE_open (rs := rs) he
  have hf := find_asF (d := d) rs n hk.fs
  obtain ⟨_, _, _, h4⟩ := existE_zero he
  rw [h4] at hf
  obtain ⟨x, hx⟩ : ∃ x, findB (rs.map FR.nb) n = some x := by
    cases hc : findB (rs.map FR.nb) n with
    | none => rw [hc] at hf; simp at hf
    | some x => exact ⟨x, rfl⟩
  obtain ⟨rs1, r, rs2, rfl, rfl, hn, hne⟩ := found rs n hx
  exact ⟨rs1, r, rs2, rfl, by rw [h1, hx], hn, hne, find_mid hk.fs hn hne, hk.each r (by simp), frs_open h⟩

theorem FR.rl (h : r.ok) (A : Seg) (L : List Seg) : RL (A :: r.S :: L) r.v r.a.data := ⟨by have := h.2.1; omega, (h.1.rs L).cons A⟩

theorem read_disk (h : Disk W w L b d) (hn : n.length ≤ maxLen) : Calls Try.prog 15 #[.pointer (some ⟨b, 0, none⟩), .string (bstr n)] w (PRead W L b d n) := by
  obtain ⟨M, SM, rs, h, hk⟩ := h
  have hex := exist_disk h hk.map hk.fs hn
  by_cases he : d.existE n = 0
  · obtain ⟨rs1, r, rs2, rfl, ho, hnm, hne, hf, hok, h1⟩ := hk.open h he
    rw [ho, he] at hex
    refine (read_hit hex h1 (FR.rl hok _ _) (h1.cellAt 0 0 0 rfl rfl rfl)).mono ?_
    rintro e w' ⟨A, cap, S, rfl, h2, h3⟩
    have hrd : d.rd n = r.a.data := by unfold AD.rd; rw [if_pos he, hf]; rfl
    refine ⟨A, cap, S, by rw [hrd, he], ⟨M, SM, _, ?_, hk⟩, by rw [hrd]; exact h3⟩
    have h4 := frs_shut (L := S :: L) (((((((h2.pick 6 rfl).pick 6 rfl).pick 6 rfl).pick 6 rfl).pick 6 rfl).pick 6 rfl))
    exact h4
  · rw [openB_none hk.fs he] at hex
    refine (read_miss hex he).mono ?_
    rintro e w' ⟨rfl, rfl⟩
    have hrd : d.rd n = [] := by unfold AD.rd; rw [if_neg he]
    refine ⟨none, 0, [], by rw [hrd]; rfl, ⟨M, SM, rs, h.addNil.tail3, hk⟩, by rw [hrd]; exact OwnS.nil 5 1⟩
end Go.Proofs.Ytfhoblchgeijkaa
