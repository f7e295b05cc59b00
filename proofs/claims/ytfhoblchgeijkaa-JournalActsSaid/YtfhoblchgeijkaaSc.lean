import Derived.Test.YtfhoblchgeijkaaSb
namespace Go.Proofs.Ytfhoblchgeijkaa
open Go.RowKit Go.Maps
variable {W w : World} {L T : List Seg} {b : Nat} {d : AD}

theorem aflat_get (xs : List AV) (i : Nat) (hi : i < xs.length) (j : Nat) (hj : j < 6) : (xs.flatMap AV.cells)[i * 6 + j]? = (xs[i].cells)[j]? := by
  induction xs generalizing i with
  | nil => simp at hi
  | cons r xs ih =>
    cases i with
    | zero =>
      simp only [List.flatMap_cons, Nat.zero_mul, Nat.zero_add, List.getElem_cons_zero]
      rw [List.getElem?_append_left (by simp [AV.cells]; exact hj)]
    | succ i =>
      simp only [List.flatMap_cons, List.getElem_cons_succ]
      rw [List.getElem?_append_right (by simp [AV.cells]; omega)]
      have : (i + 1) * 6 + j - (AV.cells r).length = i * 6 + j := by simp [AV.cells]; omega
      rw [this]
      exact ih i (by simpa using hi)

/-- The acts of DiskActs's argument. -/
structure AArg (L : List Seg) (A : Option Addr) (c : Nat) (xs : List AV) : Prop where
  rows : RS L 6 (.slice A xs.length c) xs.length (xs.flatMap AV.cells)
  each : ∀ x ∈ xs, x.ok L

theorem AArg.get {A : Option Addr} {c : Nat} {xs : List AV} (h : AArg L A c xs) (hN : 0 < xs.length) : ∃ g o, A = some ⟨g, o, none⟩ ∧ ∀ W w, H W w L → ∀ k (hk : k < xs.length) j u, j < 6 → (xs[k].cells)[j]? = some u → w.cell? ⟨g, o + k * 6 + j, none⟩ = some u := by
  rcases h.rows.2 with ⟨h0, _⟩ | ⟨g, o, cap', c, E, fr, h1, h2, h3⟩
  · omega
  · simp only [Value.slice.injEq] at h1
    obtain ⟨rfl, _, rfl⟩ := h1
    exact ⟨g, o, rfl, fun W w hH k hk j u hj hu => by rw [Nat.add_assoc]; exact hH.cell h2 (h3 _ u (by rw [aflat_get xs k hk j hj]; exact hu))⟩

/-- What heavy has counted bounds the acts. -/
def counted (m : Nat) (xs : List AV) : Prop := ∀ x ∈ xs, min x.data.2.length 3001 ≤ m ∧ min x.name.length 3001 ≤ m ∧ min x.tgt.length 3001 ≤ m ∧ min x.picks.2.length 3001 ≤ m

/-- What heavy answers; if false, then the acts are few and small. -/
def PHeavy (W : World) (L : List Seg) (xs : List AV) (e : Ending) (w' : World) : Prop := ∃ hv, e = .returned (.bool hv) ∧ H W w' L ∧ (hv = false → xs.length ≤ 200 ∧ ∀ x ∈ xs, x.small)

set_option maxRecDepth 100000 in
set_option maxHeartbeats 3200000 in
theorem heavy_any {A : Option Addr} {c : Nat} {xs : List AV} (h : H W w L) (ha : AArg L A c xs) : Calls Try.prog 19 #[.slice A xs.length c] w (PHeavy W L xs) := by
  have h' := Lib.hid h
  have ha' := Lib.hid ha
  clear h ha
  go_enter Try.func19, Try.ntmps19
  go_wp2_with fail
  go_loopw [3, 4] (fun n i wr => ∃ k m : Nat, k ≤ xs.length ∧ i = .int .i64 k ∧ n = .int .i64 m ∧ xs.length ≤ m ∧ counted m (xs.take k) ∧ H W wr L) (fun _ i _ => xs.length - (intOf i).toNat)
  case atStart => exact ⟨0, xs.length, Nat.zero_le _, rfl, rfl, Nat.le_refl _, by intro x hx; simp at hx, h'.out⟩
  case round =>
    obtain ⟨k, m, hk, rfl, rfl, hm, hc, hw⟩ := hrel
    have hw' := Lib.hid hw
    have hc' := Lib.hid hc
    clear hw hc
    by_cases hlt : k < xs.length
    · have hki : (k : Int) < (xs.length : Int) := by omega
      obtain ⟨g, o, rfl, hcell⟩ := ha'.out.get (by omega)
      have cc := hcell W wr hw'.out k hlt
      have c1 := cc 1 _ (by decide) rfl
      have c2 := cc 2 _ (by decide) rfl
      have c3 := cc 3 _ (by decide) rfl
      have c5 := cc 5 _ (by decide) rfl
      obtain ⟨A3, C3, e3, _⟩ := (ha'.out.each _ (List.getElem_mem hlt)).data
      obtain ⟨A5, C5, e5, _⟩ := (ha'.out.each _ (List.getElem_mem hlt)).picks
      rw [e3] at c3
      rw [e5] at c5
      by_cases hm3 : m ≤ 3000
      · have g1 : decide ((m : Int) ≤ 3000) = true := by simp; omega
        clear hcell cc e3 e5
        go_wp2_with fail
        obtain ⟨x, hx⟩ : ∃ x, xs[k] = x := ⟨_, rfl⟩
        rw [hx] at c1 c2 c3 c5
        have z1 := bstr_size x.name
        have z2 := bstr_size x.tgt
        have hx' := Lib.hid hx
        clear hx
        go_quiet (fail)
        go_wp2_with fail
        refine ⟨⟨k + 1, m + min x.data.2.length 3001 + min x.name.length 3001 + min x.tgt.length 3001 + min x.picks.2.length 3001, by omega, by go_num, by go_num, by omega, ?_, hw'.out.drewN nq⟩, by simp [intOf]; omega⟩
        intro y hy
        rw [List.take_add_one, List.getElem?_eq_getElem hlt, List.mem_append] at hy
        rcases hy with hy | hy
        · have := hc'.out y hy
          omega
        · simp at hy
          subst hy
          rw [hx'.out]
          omega
      · have g1 : decide ((m : Int) ≤ 3000) = false := by simp; omega
        have g2 : decide ((3000 : Int) < (m : Int)) = true := by simp; omega
        clear hcell cc e3 e5 c1 c2 c3 c5
        go_wp2_with fail
        go_ret
        exact ⟨true, rfl, hw'.out, by simp⟩
    · have hki : ¬ (k : Int) < (xs.length : Int) := by omega
      by_cases hm3 : m ≤ 3000
      · have g1 : decide ((m : Int) ≤ 3000) = true := by simp; omega
        have g2 : decide ((3000 : Int) < (m : Int)) = false := by simp; omega
        go_wp2_with fail
        go_ret
        refine ⟨_, rfl, hw'.out, fun hf => ?_⟩
        have h2 : xs.length ≤ 200 := by simp at hf; omega
        refine ⟨h2, fun x hx => ?_⟩
        have := hc'.out x (by rw [List.take_of_length_le (by omega)]; exact hx)
        exact ⟨by omega, by omega, by omega, by omega⟩
      · have g1 : decide ((m : Int) ≤ 3000) = false := by simp; omega
        have g2 : decide ((3000 : Int) < (m : Int)) = true := by simp; omega
        go_wp2_with fail
        go_ret
        exact ⟨true, rfl, hw'.out, by simp⟩
end Go.Proofs.Ytfhoblchgeijkaa
