import Derived.Test.YtfhoblchgeijkaaR
namespace Go.Proofs.Ytfhoblchgeijkaa
open Go.RowKit Go.Maps
variable {W w : World} {L T : List Seg} {v : Value} {l n bs : Bs} {b M : Nat} {d : AD} {SM X S : Seg} {rs rs1 rs2 : List FR} {r : FR} {fs : List (Bs × Nat)}

theorem bb_irr (x : Bs) : bytesBefore x x = false := by
  cases h : bytesBefore x x with
  | false => rfl
  | true => exact absurd (bb_lt h) (List.lt_irrefl x)

theorem find_at (hp : fs.Pairwise fun p q => bytesBefore p.1 q.1 = true) {l1 l2 : List (Bs × Nat)} {x : Nat} (he : fs = l1 ++ (n, x) :: l2) : findB fs n = some x := by
  subst he
  unfold findB
  rw [List.find?_append]
  have : l1.find? (fun p => p.1 == n) = none := by
    rw [List.find?_eq_none]
    intro p hp2
    have := (List.pairwise_append.1 hp).2.2 p hp2 (n, x) (by simp)
    simp only [beq_iff_eq]
    intro e
    rw [e] at this
    simp only at this
    rw [bb_irr] at this
    cases this
  rw [this]
  simp

def CInv (W : World) (L : List Seg) (b c M : Nat) (SM SN : Seg) (ps0 : List Int) (fs0 : List AF) (k : Nat) (wr : World) : Prop :=
  ∃ vp rs, H W wr (csg c vp :: chdr b M :: SM :: SN :: frs rs :: L) ∧ RI L vp (picksL ps0 (fs0.take k)) ∧ MapS Try.prog 9 M (rs.map FR.nb) SM ∧ (∀ r ∈ rs, r.ok) ∧
    rs.map FR.a = crashL ps0 (fs0.take k) ++ fs0.drop k ∧ rs.length ≤ 1099511627776

theorem RI.drop3 {A B C : Seg} {ps : List Int} (h : RI L v ps) : RI (A :: B :: C :: L) v ps := ((h.cons C).cons B).cons A

theorem CInv.open {wr : World} {c k : Nat} {SN : Seg} {ps0 : List Int} {fs0 : List AF} (h : CInv W L b c M SM SN ps0 fs0 k wr) (hk : k < fs0.length) (hnm : fs0[k].name.length ≤ maxLen) :
    ∃ vp rs1 r rs2, H W wr (csg c vp :: fhdr r :: r.S :: chdr b M :: SN :: SM :: frs rs2 :: frs rs1 :: L) ∧ RI L vp (picksL ps0 (fs0.take k)) ∧ r.ok ∧ r.a = fs0[k] ∧
      (Instr.lookup 71 (.map (some M)) (.string (bstr fs0[k].name)) false).run Try.prog wr = .ok (.pointer (some ⟨r.blk, 0, none⟩)) wr ∧
      ∀ w', (∃ vp' v' S', H W w' (csg c vp' :: [(r.blk, .cells #[v', .int .i64 (crash1 (picksL ps0 (fs0.take k)) r.a).dur] 77 (0, 0))] :: S' :: chdr b M :: SN :: SM :: frs rs2 :: frs rs1 :: L) ∧
        RI L vp' (crashP (picksL ps0 (fs0.take k)) r.a) ∧ CutS v' (crash1 (picksL ps0 (fs0.take k)) r.a).data S') → CInv W L b c M SM SN ps0 fs0 (k + 1) w' := by
  obtain ⟨vp, rs, hH, hri, hM, hok, hfs, hle⟩ := h
  have hlen : rs.length = fs0.length := by
    have := congrArg List.length hfs
    simp only [List.length_map, List.length_append, crashL_length, List.length_take, List.length_drop] at this
    omega
  have hkr : k < rs.length := by omega
  have hra : (rs[k]).a = fs0[k] := by
    have h1 : (rs.map FR.a)[k]? = some (rs[k]).a := by simp [hkr]
    rw [hfs, List.getElem?_append_right (by rw [crashL_length, List.length_take]; omega), crashL_length, List.length_take, List.getElem?_drop, show k + (k - min k fs0.length) = k by omega, List.getElem?_eq_getElem hk] at h1
    simpa using h1.symm
  have hsplit : rs = rs.take k ++ rs[k] :: rs.drop (k + 1) := by rw [List.getElem_cons_drop, List.take_append_drop]
  obtain ⟨rs1, hrs1⟩ : ∃ rs1, rs1 = rs.take k := ⟨_, rfl⟩
  obtain ⟨rs2, hrs2⟩ : ∃ rs2, rs2 = rs.drop (k + 1) := ⟨_, rfl⟩
  obtain ⟨r, hr⟩ : ∃ r, r = rs[k] := ⟨_, rfl⟩
  rw [← hrs1, ← hrs2, ← hr] at hsplit
  rw [← hr] at hra
  have hl1 : rs1.length = k := by rw [hrs1, List.length_take]; omega
  clear hrs1 hrs2 hr
  subst hsplit
  have hrok := hok r (by simp)
  have hlook := (hH.pick 2 rfl).mapLook Try.underlying9 Try.underlying71 (zero75 wr) hM fs0[k].name hnm
  have hfind : findB ((rs1 ++ r :: rs2).map FR.nb) fs0[k].name = some r.blk := by
    refine find_at (hM.sorted Try.underlying9) (l1 := rs1.map FR.nb) (l2 := rs2.map FR.nb) ?_
    rw [List.map_append, List.map_cons, ← hra]; rfl
  rw [hfind] at hlook
  refine ⟨vp, rs1, r, rs2, ?_, hri, hrok, hra, hlook, ?_⟩
  · rw [frs_mid] at hH
    exact hH.re (by intro c hc h0; simp only [List.flatten_cons, hc]; omega)
  · rintro w' ⟨vp', v', S', h1, h2, h3⟩
    have hl := crash1_len (picksL ps0 (fs0.take k)) r.a hrok.2.2
    have htk : fs0.take (k + 1) = fs0.take k ++ [fs0[k]] := by rw [List.take_add_one, List.getElem?_eq_getElem hk]; rfl
    refine ⟨vp', rs1 ++ (⟨crash1 (picksL ps0 (fs0.take k)) r.a, r.blk, v', S'⟩ : FR) :: rs2, ?_, ?_, ?_, ?_, ?_, by simpa using hle⟩
    · rw [frs_mid]
      exact h1.re (by intro c hc h0; simp only [List.flatten_cons, hc, fhdr]; omega)
    · rw [htk, picksL_snoc, ← hra]; exact h2
    · have := hM
      simpa [FR.nb, crash1_name] using this
    · intro q hq
      rcases List.mem_append.1 hq with hq | hq
      · exact hok q (by simp [hq])
      · rcases List.mem_cons.1 hq with rfl | hq
        · exact ⟨h3, by have := hrok.2.1; simp only; omega, hl.1⟩
        · exact hok q (by simp [hq])
    · have e1 : rs1.map FR.a = crashL ps0 (fs0.take k) := by
        have := congrArg (List.take k) hfs
        rw [List.map_append, List.take_left' (by simp [hl1]), List.take_left' (by rw [crashL_length, List.length_take]; omega)] at this
        exact this
      have e2 : rs2.map FR.a = fs0.drop (k + 1) := by
        have := congrArg (List.drop (k + 1)) hfs
        rw [List.map_append, List.map_cons, List.drop_append, List.drop_append] at this
        simp only [List.length_map, hl1, crashL_length, List.length_take] at this
        rw [show min k fs0.length = k by omega, show k + 1 - k = 1 by omega] at this
        simpa [hl1, crashL_length, List.drop_eq_nil_of_le, show min k fs0.length ≤ k + 1 by omega] using this
      rw [List.map_append, List.map_cons, e1, e2, htk, crashL_snoc, hra]
      simp
end Go.Proofs.Ytfhoblchgeijkaa
