import Derived.Test.YtfhoblchgeijkaaO
namespace Go.Proofs.Ytfhoblchgeijkaa
open Go.RowKit Go.Maps
variable {W w : World} {L T : List Seg} {v : Value} {l n bs : Bs} {b M : Nat} {d : AD} {SM X S : Seg} {rs rs1 rs2 : List FR} {r : FR} {fs : List (Bs × Nat)}

def i64s (ps : List Int) : List Value := ps.map fun p => .int .i64 p
theorem i64s_len (ps : List Int) : (i64s ps).length = ps.length := by simp [i64s]
def InI (p : Int) : Prop := -9223372036854775808 ≤ p ∧ p < 9223372036854775808
/-- v reads as the integers ps. -/
structure RI (L : List Seg) (v : Value) (ps : List Int) : Prop where
  rs : RS L 1 v ps.length (i64s ps)
  room : ∃ A cap, v = .slice A ps.length cap ∧ ps.length ≤ cap
  each : ∀ p ∈ ps, InI p
  le : ps.length ≤ 1099511627776

theorem RI.mono {L' : List Seg} {ps : List Int} (h : RI L v ps) (hs : ∀ p ∈ L.flatten, p ∈ L'.flatten) : RI L' v ps := ⟨h.rs.mono hs, h.room, h.each, h.le⟩
theorem RI.cons {ps : List Int} (h : RI L v ps) (A : Seg) : RI (A :: L) v ps := ⟨h.rs.cons A, h.room, h.each, h.le⟩
theorem RI.nil (L : List Seg) : RI L (.slice none 0 0) [] := ⟨⟨by simp [i64s], .inl ⟨rfl, none, 0, rfl⟩⟩, ⟨none, 0, rfl, by simp⟩, by simp, by simp⟩

/-- A row of integers that is not empty, and what is left behind its first. -/
theorem RI.uncons {L' : List Seg} {p : Int} {ps : List Int} (h : RI L v (p :: ps)) (hH : H W w L') (hs : ∀ p ∈ L.flatten, p ∈ L'.flatten) : ∃ a a' cap, v = .slice (some a) (ps.length + 1) cap ∧ w.cell? a = some (.int .i64 p) ∧
    (∀ w, (Instr.slice 23 v (some (.int .i64 1)) none none).run Try.prog w = .ok (.slice (some a') ps.length (cap - 1)) w) ∧ RI L (.slice (some a') ps.length (cap - 1)) ps := by
  obtain ⟨A, cap, hv, hcap⟩ := h.room
  simp only [List.length_cons] at hv hcap
  have hrs := h.rs
  rcases hrs.2 with ⟨h0, _⟩ | ⟨b, o, cap', c, E, fr, h1, h2, h3⟩
  · simp at h0
  · rw [hv] at h1
    simp only [Value.slice.injEq] at h1
    obtain ⟨rfl, _, rfl⟩ := h1
    have hc0 := hH.cell (hs _ h2) (h3 0 (.int .i64 p) rfl)
    refine ⟨⟨b, o, none⟩, (if cap = 1 then ⟨b, o, none⟩ else ⟨b, o + 1, none⟩), cap, hv, hc0, ?_, ?_⟩
    · intro w
      subst hv
      have e1 : (1 : Int) ≤ (ps.length : Int) + 1 := by omega
      simp [Instr.slice, go_sem, Try.sizeOf3, Instr.sliceBounds, Instr.sliceBound, e1, Addr.add]
      split <;> rfl
    · refine ⟨⟨by simp [i64s], ?_⟩, ⟨_, _, rfl, by omega⟩, fun q hq => h.each q (by simp [hq]), by have := h.le; simp at this; omega⟩
      by_cases hn : ps.length = 0
      · exact .inl ⟨hn, _, _, by rw [hn]⟩
      · rw [if_neg (by omega)]
        refine .inr ⟨b, o + 1, cap - 1, c, E, fr, rfl, h2, fun j u hu => ?_⟩
        have := h3 (j + 1) u (by simpa [i64s] using hu)
        rw [← this]; congr 1; omega

def belowV (ps : List Int) (n : Nat) : Nat := match ps with | [] => 0 | p :: _ => (p % (n : Int)).toNat

def csg (c : Nat) (vp : Value) : Seg := [(c, .cells #[vp] 82 (0, 0))]
def PBelow (W : World) (L L0 : List Seg) (c : Nat) (ps : List Int) (n : Nat) (e : Ending) (w' : World) : Prop :=
  ∃ vp', e = .returned (.int .i64 (belowV ps n)) ∧ H W w' (csg c vp' :: L) ∧ RI L0 vp' ps.tail

set_option maxHeartbeats 400000 in
theorem below_nil {c n : Nat} {A : Option Addr} {cap : Nat} (h : H W w (csg c (.slice A 0 cap) :: L)) :
    Calls Try.prog 44 #[.pointer (some ⟨c, 0, none⟩), .int .i64 n] w fun e w' => e = .returned (.int .i64 0) ∧ w = w' := by
  have c0 : w.cell? ⟨c, 0, none⟩ = some (.slice A 0 cap) := h.cellAt 0 0 0 rfl rfl rfl
  clear h
  go_enter Try.func44, Try.ntmps44
  go_wp2
  go_ret
  exact ⟨rfl, rfl⟩

theorem modI (p : Int) (n : Nat) (hn : 0 < n) (hn2 : n ≤ 1099511627777) :
    (p.tmod n < 0 ∧ p.tmod n + n = ((p % (n : Int)).toNat : Int) ∧ -1099511627777 ≤ p.tmod n) ∨ (0 ≤ p.tmod n ∧ p.tmod n = ((p % (n : Int)).toNat : Int) ∧ p.tmod n ≤ 1099511627777) := by
  have h1 := Int.emod_nonneg p (show (n : Int) ≠ 0 by omega)
  have h2 := Int.emod_lt_of_pos p (show (0 : Int) < n by omega)
  by_cases h : p < 0
  · have e := Int.tmod_eq_emod (a := p) (b := n)
    by_cases hd : (n : Int) ∣ p
    · right
      have : p % (n : Int) = 0 := Int.emod_eq_zero_of_dvd hd
      have h3 : p.tmod n = 0 := Int.tmod_eq_zero_of_dvd hd
      rw [h3, this]; simp
    · left
      rw [if_neg (by intro hc; rcases hc with hc | hc; · omega
                     · exact hd hc)] at e
      have : p % (n : Int) ≠ 0 := fun hc => hd (Int.dvd_of_emod_eq_zero hc)
      rw [e]
      refine ⟨by omega, by omega, by omega⟩
  · right
    rw [Int.tmod_eq_emod_of_nonneg (by omega)]
    omega

set_option maxHeartbeats 800000 in
theorem below_cons {L0 : List Seg} {c n : Nat} {p : Int} {ps : List Int} {vp : Value} (h : H W w (csg c vp :: L)) (hr : RI L0 vp (p :: ps)) (hs : ∀ p ∈ L0.flatten, p ∈ L.flatten) (hn : 0 < n) (hn2 : n ≤ 1099511627777) :
    Calls Try.prog 44 #[.pointer (some ⟨c, 0, none⟩), .int .i64 n] w (PBelow W L L0 c (p :: ps) n) := by
  obtain ⟨a, a', cap, rfl, hp, hsl, hr2⟩ := hr.uncons h.drop hs
  have c0 : w.cell? ⟨c, 0, none⟩ = some (.slice (some a) (ps.length + 1) cap) := h.cellAt 0 0 0 rfl rfl rfl
  have f0 : w.frozen? ⟨c, 0, none⟩ = false := h.freeAt 0 0 0 rfl rfl
  have h' := Lib.hid (h.setCell 0 (.slice (some a') ps.length (cap - 1)))
  have hr' := Lib.hid hr2
  clear hr2
  have e0 : (((ps.length + 1 : Nat) : Int) == 0) = false := by simp; omega
  have e1 : ((n : Int) == 0) = false := by simp; omega
  have hi := hr.each p (by simp)
  have hm := modI p n hn hn2
  clear h hr hs
  rcases hm with ⟨m1, m2, m3⟩ | ⟨m1, m2, m3⟩
  · have d1 : decide (p.tmod n < 0) = true := by simpa using m1
    have hg := Lib.hid m2
    clear m2
    go_enter Try.func44, Try.ntmps44
    go_wp2
    go_ret
    exact ⟨_, congrArg (fun x : Int => Ending.returned (.int .i64 x)) hg.out, h'.out, hr'.out⟩
  · have d1 : decide (p.tmod n < 0) = false := by simp; omega
    have hg := Lib.hid m2
    clear m2
    go_enter Try.func44, Try.ntmps44
    go_wp2
    go_ret
    exact ⟨_, congrArg (fun x : Int => Ending.returned (.int .i64 x)) hg.out, h'.out, hr'.out⟩

theorem below_any {L0 : List Seg} {c n : Nat} {ps : List Int} {vp : Value} (h : H W w (csg c vp :: L)) (hr : RI L0 vp ps) (hs : ∀ p ∈ L0.flatten, p ∈ L.flatten) (hn : 0 < n) (hn2 : n ≤ 1099511627777) :
    Calls Try.prog 44 #[.pointer (some ⟨c, 0, none⟩), .int .i64 n] w (PBelow W L L0 c ps n) := by
  cases ps with
  | nil =>
    obtain ⟨A, cap, rfl, _⟩ := hr.room
    refine (below_nil (A := A) (cap := cap) h).mono ?_
    rintro e w' ⟨rfl, rfl⟩
    exact ⟨_, rfl, h, hr⟩
  | cons p ps => exact below_cons h hr hs hn hn2

theorem below_at {L0 : List Seg} {c n : Nat} {ps : List Int} {vp : Value} {x : Int} (h : H W w (csg c vp :: L)) (hr : RI L0 vp ps) (hs : ∀ p ∈ L0.flatten, p ∈ L.flatten) (hn : 0 < n) (hn2 : n ≤ 1099511627777) (hx : x = n) :
    Calls Try.prog 44 #[.pointer (some ⟨c, 0, none⟩), .int .i64 x] w (PBelow W L L0 c ps n) := by
  subst hx
  exact below_any h hr hs hn hn2
end Go.Proofs.Ytfhoblchgeijkaa
