import Derived.Test.YtfhoblchgeijkaaI
namespace Go.Proofs.Ytfhoblchgeijkaa
open Go.RowKit Go.Maps
variable {W w : World} {L T : List Seg} {v : Value} {l n bs : Bs} {b M : Nat} {d : AD} {SM X S : Seg} {rs rs1 rs2 : List FR} {r : FR} {fs : List (Bs × Nat)}

def AD.chgE (d : AD) (n : Bs) : Int := if d.existE n = 0 then (if d.writes then 0 else 103) else d.existE n
def AD.chg (d : AD) (n : Bs) (g : List AF → List AF) : AD := if d.existE n = 0 then (if d.writes then { d.wrote with fs := g d.fs } else d.wrote) else d
def syncF (n : Bs) : List AF → List AF := updL n fun f => { f with dur := f.data.length }

set_option maxHeartbeats 400000 in
theorem sync_clo (h : H W w (fhdr r :: T)) (hok : r.ok) : Calls Try.prog 41 #[.pointer (some ⟨r.blk, 0, none⟩)] w (PVoid fun w' => H W w' ([(r.blk, .cells #[r.v, .int .i64 r.a.data.length] 77 (0, 0))] :: T)) := by
  obtain ⟨A, cap, hv, _⟩ := hok.1.form
  have c0 : w.cell? ⟨r.blk, 0, none⟩ = some r.v := h.cellAt 0 0 0 rfl rfl rfl
  rw [hv] at c0
  have c1 : w.cell? ⟨r.blk, 1, none⟩ = some (.int .i64 r.a.dur) := h.cellAt 0 0 1 rfl rfl rfl
  have f1 : w.frozen? ⟨r.blk, 1, none⟩ = false := h.freeAt 0 0 1 rfl rfl
  have h' := Lib.hid (h.setCell 1 (.int .i64 r.a.data.length))
  clear h hok hv
  go_enter Try.func41, Try.ntmps41
  go_wp2
  go_end0
  exact ⟨rfl, h'.out⟩

set_option maxHeartbeats 400000 in
theorem chg_miss {x : Int} (fv : Value) (hop : Calls Try.prog 45 #[.pointer (some ⟨b, 0, none⟩), .string (bstr n)] w (POpen none x fun w' => w = w')) (hx : x ≠ 0) :
    Calls Try.prog 40 #[.pointer (some ⟨b, 0, none⟩), .string (bstr n), fv] w (PErr x fun w' => w = w') := by
  have hc' : (x != 0) = true := by simpa using hx
  go_enter Try.func40, Try.ntmps40
  go_wp2_with (go_at_call 45; refine hop.mono ?_; rintro e w1 ⟨rfl, rfl⟩; unfold ptrV)
  go_ret
  exact ⟨rfl, rfl⟩

set_option maxHeartbeats 400000 in
theorem chg_fail {B : Nat} (fv : Value) (hop : Calls Try.prog 45 #[.pointer (some ⟨b, 0, none⟩), .string (bstr n)] w (POpen (some B) 0 fun w' => w = w'))
    (h : H W w (dhdr b M d :: T)) (hl : d.left < 9223372036854775808) (hwv : d.writes = false) :
    Calls Try.prog 40 #[.pointer (some ⟨b, 0, none⟩), .string (bstr n), fv] w (PErr 103 fun w' => H W w' (dhdr b M d.wrote :: T)) := by
  have h' := Lib.hid h
  clear h
  go_enter Try.func40, Try.ntmps40
  go_wp2_with (first
    | (go_at_call 45; refine hop.mono ?_; rintro e w1 ⟨rfl, rfl⟩; unfold ptrV)
    | (go_at_call 43; refine (write_hdr h'.out hl).mono ?_; rw [hwv]; rintro e w3 ⟨rfl, h4⟩))
  go_ret
  exact ⟨rfl, h4⟩

set_option maxHeartbeats 400000 in
theorem chg_sync (hop : Calls Try.prog 45 #[.pointer (some ⟨b, 0, none⟩), .string (bstr n)] w (POpen (some r.blk) 0 fun w' => w = w'))
    (h : H W w (dhdr b M d :: fhdr r :: T)) (hok : r.ok) (hl : d.left < 9223372036854775808) (hwv : d.writes = true) :
    Calls Try.prog 40 #[.pointer (some ⟨b, 0, none⟩), .string (bstr n), .func (.func 41) #[] #[]] w (PErr 0 fun w' => H W w' ([(r.blk, .cells #[r.v, .int .i64 r.a.data.length] 77 (0, 0))] :: dhdr b M d.wrote :: T)) := by
  have h' := Lib.hid h
  have hok' := Lib.hid hok
  clear h hok
  go_enter Try.func40, Try.ntmps40
  go_wp2_with (first
    | (go_at_call 45; refine hop.mono ?_; rintro e w1 ⟨rfl, rfl⟩; unfold ptrV)
    | (go_at_call 43; refine (write_hdr h'.out hl).mono ?_; rw [hwv]; rintro e w3 ⟨rfl, h4⟩; have h4' := Lib.hid h4.swap; clear h4)
    | (go_at_call 41; refine (sync_clo h4'.out hok'.out).mono ?_; rintro e w4 ⟨rfl, h5⟩))
  go_ret
  exact ⟨rfl, h5⟩

set_option maxHeartbeats 400000 in
theorem sync_of {x : Int} {P : World → Prop} (hc : Calls Try.prog 40 #[.pointer (some ⟨b, 0, none⟩), .string (bstr n), .func (.func 41) #[] #[]] w (PErr x P)) :
    Calls Try.prog 12 #[.pointer (some ⟨b, 0, none⟩), .string (bstr n)] w (PErr x P) := by
  go_enter Try.func12, Try.ntmps12
  go_wp2_with (go_at_call 40; refine hc.mono ?_; rintro e w1 ⟨rfl, h1⟩)
  go_ret
  exact ⟨rfl, h1⟩

theorem updL_fs (hfs : (rs1 ++ r :: rs2).map FR.a = d.fs) (hnm : r.a.name = n) (hne : ∀ s ∈ rs1, s.a.name ≠ n) (g : AF → AF) : updL n g d.fs = rs1.map FR.a ++ g r.a :: rs2.map FR.a := by
  rw [← hfs, List.map_append, List.map_cons]
  exact updL_mid g (by intro s hs; obtain ⟨q, hq, rfl⟩ := List.mem_map.1 hs; exact hne q hq) hnm

/-- One file's head and row were changed, the name stays. -/
theorem disk_upd {w' : World} {d2 : AD} {r' : FR} (hk : DOk d M SM (rs1 ++ r :: rs2)) (hnm : r'.a.name = r.a.name) (hblk : r'.blk = r.blk) (hok : r'.ok) (hfs : d2.fs = rs1.map FR.a ++ r'.a :: rs2.map FR.a) (hl : d2.left < 9223372036854775808)
    (h : H W w' (fhdr r' :: r'.S :: dhdr b M d2 :: SM :: frs rs1 :: frs rs2 :: L)) : Disk W w' L b d2 := by
  refine ⟨M, SM, rs1 ++ r' :: rs2, frs_shut ?_, ?_⟩
  · exact h.re (by intro c hc h0; simp only [List.flatten_cons, hc]; omega)
  · refine ⟨?_, ?_, by simpa using hfs.symm, hl, by have := hk.le; simpa using this⟩
    · have := hk.map
      simpa [FR.nb, hnm, hblk] using this
    · intro q hq
      rcases List.mem_append.1 hq with hq | hq
      · exact hk.each q (by simp [hq])
      · rcases List.mem_cons.1 hq with rfl | hq
        · exact hok
        · exact hk.each q (by simp [hq])

/-- A change of an existing file that fails by itself. -/
theorem chg_any (fv : Value) (h : Disk W w L b d) (hn : n.length ≤ 1099511627776) (g : List AF → List AF)
    (hgo : ∀ M SM rs1 r rs2, DOk d M SM (rs1 ++ r :: rs2) → r.a.name = n → (∀ s ∈ rs1, s.a.name ≠ n) → d.writes = true → d.existE n = 0 →
      Calls Try.prog 45 #[.pointer (some ⟨b, 0, none⟩), .string (bstr n)] w (POpen (some r.blk) 0 fun w' => w = w') →
      H W w (fhdr r :: r.S :: frs rs2 :: frs rs1 :: dhdr b M d :: SM :: L) →
      Calls Try.prog 40 #[.pointer (some ⟨b, 0, none⟩), .string (bstr n), fv] w (PErr 0 fun w' => Disk W w' L b { d.wrote with fs := g d.fs })) :
    Calls Try.prog 40 #[.pointer (some ⟨b, 0, none⟩), .string (bstr n), fv] w (PErr (d.chgE n) fun w' => Disk W w' L b (d.chg n g)) := by
  obtain ⟨M, SM, rs, h, hk⟩ := h
  have hop := exist_disk (n := n) h hk.map hk.fs (by unfold maxLen; omega)
  by_cases he : d.existE n = 0
  · obtain ⟨rs1, r, rs2, rfl, ho, hnm, hne, hf, hok, h1⟩ := hk.open h he
    rw [ho, he] at hop
    cases hwv : d.writes with
    | true =>
      refine (hgo M SM rs1 r rs2 hk hnm hne hwv he hop h1).mono ?_
      rintro e w' ⟨rfl, h2⟩
      refine ⟨by unfold AD.chgE; rw [if_pos he, hwv]; rfl, ?_⟩
      unfold AD.chg
      rw [if_pos he, hwv, if_pos rfl]
      exact h2
    | false =>
      refine (chg_fail fv hop h hk.left hwv).mono ?_
      rintro e w' ⟨rfl, h2⟩
      refine ⟨by unfold AD.chgE; rw [if_pos he, hwv]; rfl, ?_⟩
      unfold AD.chg
      rw [if_pos he, hwv, if_neg (by simp)]
      exact ⟨M, SM, _, h2, hk.map, hk.each, by rw [wrote_fs]; exact hk.fs, wrote_left hk.left, hk.le⟩
  · rw [openB_none hk.fs he] at hop
    refine (chg_miss fv hop he).mono ?_
    rintro e w' ⟨rfl, rfl⟩
    refine ⟨by unfold AD.chgE; rw [if_neg he], ?_⟩
    unfold AD.chg
    rw [if_neg he]
    exact ⟨M, SM, rs, h, hk⟩

theorem dhdr_fs (b M : Nat) (d : AD) (fs : List AF) : dhdr b M { d with fs := fs } = dhdr b M d := rfl

theorem sync_disk (h : Disk W w L b d) (hn : n.length ≤ 1099511627776) :
    Calls Try.prog 12 #[.pointer (some ⟨b, 0, none⟩), .string (bstr n)] w (PErr (d.chgE n) fun w' => Disk W w' L b (d.chg n (syncF n))) := by
  refine sync_of (chg_any _ h hn (syncF n) ?_)
  intro M SM rs1 r rs2 hk hnm hne hwv he hop h1
  have hok := hk.each r (by simp)
  refine (chg_sync (M := M) (T := r.S :: frs rs2 :: frs rs1 :: SM :: L) hop (h1.re (by intro c hc h0; simp only [List.flatten_cons, hc]; omega)) hok hk.left hwv).mono ?_
  rintro e w' ⟨rfl, h2⟩
  refine ⟨rfl, ?_⟩
  refine disk_upd (r' := ⟨{ r.a with dur := r.a.data.length }, r.blk, r.v, r.S⟩) hk rfl rfl ⟨hok.1, hok.2.1, Nat.le_refl _⟩ (updL_fs hk.fs hnm hne _) (wrote_left hk.left) ?_
  rw [dhdr_fs]
  exact h2.re (by intro c hc h0; simp only [List.flatten_cons, hc, fhdr]; omega)
end Go.Proofs.Ytfhoblchgeijkaa
