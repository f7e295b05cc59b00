import Derived.Test.YtggphdbifjoflaaXd
namespace Go.Proofs.Ytggphdbifjoflaa
open Go.RowKit
variable {W w : World} {L : List Seg} {v : Value} {l : List UInt8} {b : Nat} {N x y : Int} {ps : List Pcl}

/-! What each call does to the list of parcels, and the number it gives back. -/
def inP (N : Int) (p : Pcl) : Prop := 0 ≤ p.f ∧ p.f < N ∧ 0 ≤ p.t ∧ p.t < N
instance (N : Int) (p : Pcl) : Decidable (inP N p) := by unfold inP; exact inferInstance
def okN (N : Int) (ps : List Pcl) : Prop := ∀ p ∈ ps, inP N p
def sendC (N : Int) (ps : List Pcl) (p : Pcl) : Int := if inP N p then (if ps.length < 4096 then 0 else 5) else 1
def sendL (N : Int) (ps : List Pcl) (p : Pcl) : List Pcl := if inP N p then (if ps.length < 4096 then ps ++ [p] else ps) else ps
theorem inP_bad {p : Pcl} (h : ¬ inP N p) : p.f < 0 ∨ N ≤ p.f ∨ p.t < 0 ∨ N ≤ p.t := by unfold inP at h; omega

theorem send_all (p : Pcl) (h : Net W w L b N ps) (hr : RL L v p.d) :
    Calls Try.prog 8 #[.pointer (some ⟨b, 0, none⟩), .agg #[.int .i64 p.f, .int .i64 p.t, v]] w (PErr (sendC N ps p) fun w' => Net W w' L b N (sendL N ps p)) := by
  obtain ⟨A, c, SP, rs, h1, hn, hlen⟩ := h.open
  have hp : w.cell? ⟨b, 0, none⟩ = some (.int .i64 N) := h1.cellAt 0 0 0 rfl rfl rfl
  have hq : w.cell? ⟨b, 1, none⟩ = some (.slice A ps.length c) := h1.cellAt 0 0 1 rfl rfl rfl
  have hle := hn.le
  obtain ⟨A0, c0, rfl⟩ := hr.2.form
  unfold sendC sendL
  by_cases hin : inP N p
  · rw [if_pos hin, if_pos hin]
    obtain ⟨i1, i2, i3, i4⟩ := hin
    by_cases hl : ps.length < 4096
    · rw [if_pos hl, if_pos hl]
      exact send_ok h hr i1 i2 i3 i4 hl
    · rw [if_neg hl, if_neg hl]
      have e : ps.length = 4096 := by omega
      rw [e] at hq
      refine (send_full p.f p.t A0 A p.d.length c0 c h1 hp hq i1 i2 i3 i4).mono ?_
      rintro e w' ⟨rfl, h2⟩
      exact ⟨rfl, _, SP, rs, h2, hn⟩
  · rw [if_neg hin, if_neg hin]
    refine (send_bad p.f p.t A0 p.d.length c0 h1 hp (inP_bad hin)).mono ?_
    rintro e w' ⟨rfl, h2⟩
    exact ⟨rfl, _, SP, rs, h2, hn⟩

theorem rsend_all_in {pv : Value} {SP : Seg} {rs : List PR} (p : Pcl) (h1 : H W w (rhdr b N pv :: SP :: datas rs :: L)) (hn : RNetOk ps pv SP rs) (hr : RL (datas rs :: L) v p.d) :
    Calls Try.prog 15 #[.pointer (some ⟨b, 0, none⟩), .agg #[.int .i64 p.f, .int .i64 p.t, v]] w (PErr (sendC N ps p) fun w' => RNet W w' L b N (sendL N ps p)) := by
  obtain ⟨A, c, rfl⟩ := hn.row.form
  have hlen : rs.length = ps.length := by rw [← hn.map, List.length_map]
  have hp : w.cell? ⟨b, 0, none⟩ = some (.int .i64 N) := h1.cellAt 0 0 0 rfl rfl rfl
  have hq : w.cell? ⟨b, 1, none⟩ = some (.slice A rs.length c) := h1.cellAt 0 0 1 rfl rfl rfl
  have hle := hn.le
  obtain ⟨A0, c0, rfl⟩ := hr.2.form
  unfold sendC sendL
  by_cases hin : inP N p
  · rw [if_pos hin, if_pos hin]
    obtain ⟨i1, i2, i3, i4⟩ := hin
    by_cases hl : ps.length < 4096
    · rw [if_pos hl, if_pos hl]
      exact rsend_in h1 hn hr i1 i2 i3 i4 hl
    · rw [if_neg hl, if_neg hl]
      have e : rs.length = 4096 := by omega
      rw [e] at hq
      refine (rsend_full p.f p.t A0 A p.d.length c0 c h1 hp hq i1 i2 i3 i4).mono ?_
      rintro e w' ⟨rfl, h2⟩
      exact ⟨rfl, _, SP, rs, h2, hn⟩
  · rw [if_neg hin, if_neg hin]
    refine (rsend_bad p.f p.t A0 p.d.length c0 h1 hp (inP_bad hin)).mono ?_
    rintro e w' ⟨rfl, h2⟩
    exact ⟨rfl, _, SP, rs, h2, hn⟩
theorem rsend_all (p : Pcl) (h : RNet W w L b N ps) (hr : RL L v p.d) :
    Calls Try.prog 15 #[.pointer (some ⟨b, 0, none⟩), .agg #[.int .i64 p.f, .int .i64 p.t, v]] w (PErr (sendC N ps p) fun w' => RNet W w' L b N (sendL N ps p)) := by
  obtain ⟨pv, SP, rs, h1, hn⟩ := h
  exact rsend_all_in p h1 hn (hr.cons _)

/-! Duplicate -/
def atI (ps : List Pcl) (i : Int) : Option Pcl := if i < 0 then none else ps[i.toNat]?
theorem atI_none {ps : List Pcl} {i : Int} (h : atI ps i = none) : i < 0 ∨ (ps.length : Int) ≤ i := by
  unfold atI at h
  split at h
  · left; assumption
  · right; simp at h; omega
theorem atI_some {ps : List Pcl} {i : Int} {p : Pcl} (h : atI ps i = some p) : ∃ k : Nat, i = k ∧ ps[k]? = some p ∧ k < ps.length := by
  unfold atI at h
  split at h
  · cases h
  · exact ⟨i.toNat, by omega, h, (List.getElem?_eq_some_iff.1 h).1⟩
def dupC (ps : List Pcl) (i : Int) : Int := match atI ps i with | none => 6 | some _ => if ps.length < 4096 then 0 else 5
def dupL (ps : List Pcl) (i : Int) : List Pcl := match atI ps i with | none => ps | some p => if ps.length < 4096 then ps ++ [p] else ps

theorem dup_all (i : Int) (h : Net W w L b N ps) :
    Calls Try.prog 10 #[.pointer (some ⟨b, 0, none⟩), .int .i64 i] w (PErr (dupC ps i) fun w' => Net W w' L b N (dupL ps i)) := by
  obtain ⟨A, c, SP, rs, h1, hn, hlen⟩ := h.open
  have hq : w.cell? ⟨b, 1, none⟩ = some (.slice A ps.length c) := h1.cellAt 0 0 1 rfl rfl rfl
  have hle := hn.le
  unfold dupC dupL
  cases hi : atI ps i with
  | none =>
    refine (dup_out i A ps.length c h1 hq (atI_none hi)).mono ?_
    rintro e w' ⟨rfl, h2⟩
    exact ⟨rfl, _, SP, rs, h2, hn⟩
  | some p =>
    obtain ⟨k, rfl, hk, hkl⟩ := atI_some hi
    have hkr : k < rs.length := by omega
    have hp : (rs[k]).p = p := by
      have := hk; rw [← hn.map, List.getElem?_map, List.getElem?_eq_getElem hkr] at this; simpa using this
    simp only
    by_cases hl : ps.length < 4096
    · rw [if_pos hl, if_pos hl]
      have := dup_ok k h1 hn hkr (by omega)
      rw [hp] at this
      exact this
    · rw [if_neg hl, if_neg hl]
      refine (dup_full k h1 hn hkr (by omega)).mono ?_
      rintro e w' ⟨rfl, h2⟩
      exact ⟨rfl, _, SP, rs, h2, hn⟩

set_option maxHeartbeats 800000 in
theorem rdup_out (i : Int) (A : Option Addr) (n c : Nat) (hH : H W w L) (hq : w.cell? ⟨b, 1, none⟩ = some (.slice A n c)) (hi : i < 0 ∨ (n : Int) ≤ i) :
    Calls Try.prog 18 #[.pointer (some ⟨b, 0, none⟩), .int .i64 i] w (PErr 6 fun w' => H W w' L) := by
  have h' := Lib.hid hH
  clear hH
  by_cases c0 : i < 0
  · have e1 : decide (i < 0) = true := by simpa using c0
    clear hi
    go_enter Try.func18, Try.ntmps18
    go_wp2_with fail
    go_ret
    exact ⟨rfl, h'.out⟩
  · have e1 : decide (i < 0) = false := by simpa using c0
    have e2 : decide ((n : Int) ≤ i) = true := by simp; omega
    clear hi
    go_enter Try.func18, Try.ntmps18
    go_wp2_with fail
    go_ret
    exact ⟨rfl, h'.out⟩

set_option maxHeartbeats 800000 in
theorem rdup_in (k : Nat) {pv : Value} {SP : Seg} {rs : List PR} (h : H W w (rhdr b N pv :: SP :: datas rs :: L)) (hn : RNetOk ps pv SP rs) (hk : k < rs.length) (p : Pcl) (hp : (rs[k]).p = p) :
    Calls Try.prog 18 #[.pointer (some ⟨b, 0, none⟩), .int .i64 k] w (PErr (sendC N ps p) fun w' => RNet W w' L b N (sendL N ps p)) := by
  obtain ⟨g, cap, rfl, hle, c0, c1, c2⟩ := hn.cells h (fun p hp => by simp [hp]) k hk
  obtain ⟨A, c, hv⟩ := (hn.each _ (List.getElem_mem hk)).1.form
  have hr := hn.rl k hk L
  have hm := hn.le
  rw [hp] at c0 c1 hv hr
  rw [hv] at c2 hr
  have hq : w.cell? ⟨b, 1, none⟩ = some (.slice (some ⟨g, 0, none⟩) rs.length cap) := h.cellAt 0 0 1 rfl rfl rfl
  have h' := Lib.hid h
  have hn' := Lib.hid hn
  have hr' := Lib.hid hr
  have e1 : decide ((k : Int) < 0) = false := by simp
  have e2 : decide ((rs.length : Int) ≤ (k : Int)) = false := by simp; omega
  have hki : (k : Int) < (rs.length : Int) := by omega
  clear h hn hr hv hp
  go_enter Try.func18, Try.ntmps18
  go_wp2_with (go_at_call 15; refine (rsend_all_in p h'.out hn'.out hr'.out).mono ?_; rintro e w1 ⟨rfl, h1⟩)
  go_ret
  exact ⟨rfl, h1⟩

theorem rdup_all (i : Int) (h : RNet W w L b N ps) (hok : okN N ps) :
    Calls Try.prog 18 #[.pointer (some ⟨b, 0, none⟩), .int .i64 i] w (PErr (dupC ps i) fun w' => RNet W w' L b N (dupL ps i)) := by
  obtain ⟨A, c, SP, rs, h1, hn, hlen⟩ := h.open
  have hq : w.cell? ⟨b, 1, none⟩ = some (.slice A ps.length c) := h1.cellAt 0 0 1 rfl rfl rfl
  unfold dupC dupL
  cases hi : atI ps i with
  | none =>
    refine (rdup_out i A ps.length c h1 hq (atI_none hi)).mono ?_
    rintro e w' ⟨rfl, h2⟩
    exact ⟨rfl, _, SP, rs, h2, hn⟩
  | some p =>
    obtain ⟨k, rfl, hk, hkl⟩ := atI_some hi
    have hkr : k < rs.length := by omega
    have hp : (rs[k]).p = p := by
      have := hk; rw [← hn.map, List.getElem?_map, List.getElem?_eq_getElem hkr] at this; simpa using this
    have hin : inP N p := hok p (List.mem_of_getElem? hk)
    have := rdup_in k (hlen ▸ h1 : H W w (rhdr b N (.slice A ps.length c) :: SP :: datas rs :: L)) hn hkr p hp
    unfold sendC sendL at this
    simp only [if_pos hin] at this
    exact this
end Go.Proofs.Ytggphdbifjoflaa
