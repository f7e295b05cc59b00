import Derived.Test.YtfhoblchgeijkaaN
namespace Go.Proofs.Ytfhoblchgeijkaa
open Go.RowKit Go.Maps
open Go.WideElems (Fit rd rg pl rd_val)
variable {W w : World} {L T : List Seg} {v : Value} {l n bs : Bs} {b M : Nat} {d : AD} {SM X S : Seg} {rs rs1 rs2 : List FR} {r : FR} {fs : List (Bs × Nat)}

theorem bb_lt : ∀ {x y : Bs}, bytesBefore x y = true → x < y
  | [], [], h => by simp [bytesBefore] at h
  | [], b :: s, _ => List.nil_lt_cons _ _
  | _ :: _, [], h => by simp [bytesBefore] at h
  | a :: r, b :: s, h => by
    simp only [bytesBefore, Bool.or_eq_true, decide_eq_true_eq, Bool.and_eq_true, beq_iff_eq] at h
    rcases h with h | ⟨rfl, h⟩
    · exact List.cons_lt_cons_iff.2 (.inl h)
    · exact List.cons_lt_cons_iff.2 (.inr ⟨rfl, bb_lt h⟩)

theorem MapS.sorted {k : TypeId} {P : Program} (hk : P.underlying k = some .string) (h : MapS P k M fs S) : fs.Pairwise fun p q => bytesBefore p.1 q.1 = true := by
  obtain ⟨es, clock, rfl, F, hD⟩ := h
  have := Maps.sorted_sorted (Maps.Keyed.one (string_keyed hk)) _ (Maps.fit_keys F) (Maps.fit_apart (string_keyed hk) F)
  rw [hD] at this
  unfold asD at this
  rw [List.pairwise_map] at this
  exact this

theorem sort_names (h : fs.Pairwise fun p q => bytesBefore p.1 q.1 = true) {ss : List Bs} (hp : ss.Perm (strKeys (.map (asD fs)))) : ss.mergeSort (fun x y => decide (x ≤ y)) = fs.map Prod.fst := by
  have e : strKeys (.map (asD fs)) = fs.map Prod.fst := by simp [strKeys, asD, strOf]
  rw [e] at hp
  have h1 := mergeSort_of_perm hp
  have h2 : (fs.map Prod.fst).mergeSort leB = fs.map Prod.fst := by
    refine List.mergeSort_of_pairwise ?_
    rw [List.pairwise_map]
    exact h.imp fun hb => by simpa [leB] using List.le_of_lt (bb_lt hb)
  exact h1.trans h2

def PNames (W : World) (L : List Seg) (b : Nat) (d : AD) (e : Ending) (w' : World) : Prop :=
  ∃ A cap S, e = .returned (.slice A d.fs.length cap) ∧ Disk W w' (S :: L) b d ∧ OwnS 9 1 (.slice A d.fs.length cap) d.fs.length (d.fs.map fun f => .string (bstr f.name)) S

set_option maxHeartbeats 400000 in
theorem files_nil (w : World) : Calls Try.prog 39 #[.pointer none] w fun e w' => e = .returned (.slice none 0 0) ∧ w = w' := by
  go_enter Try.func39, Try.ntmps39
  go_wp2
  go_ret
  exact ⟨rfl, rfl⟩

set_option maxHeartbeats 400000 in
theorem files_walk (M : Nat) (c0 : w.cell? ⟨b, 0, none⟩ = some (.map (some M))) {Q : Ending → World → Prop}
    (hs : Calls Try.prog 68 #[.func (.func 80) #[] #[.pointer (some ⟨w.heap.size, 0, none⟩)]] (w.alloc (.cells #[.map (some M)] 71)) fun e w' => ∃ v, e = .returned v ∧ Q e w') :
    Calls Try.prog 39 #[.pointer (some ⟨b, 0, none⟩)] w Q := by
  have hkc : Calls Try.prog 69 #[.map (some M)] w fun e w' => e = .returned (.func (.func 80) #[] #[.pointer (some ⟨w.heap.size, 0, none⟩)]) ∧ w' = w.alloc (.cells #[.map (some M)] 71) := (callsIn_wide).1 (maps_Keys_69 (some M) w)
  go_enter Try.func39, Try.ntmps39
  go_wp2_with (first
    | (go_at_call 69; refine hkc.mono ?_; rintro e w' ⟨rfl, rfl⟩)
    | (go_at_call 68; refine hs.mono ?_; rintro e w' ⟨v, rfl, hq⟩))
  exact hq

theorem files_disk (h : Disk W w L b d) : Calls Try.prog 39 #[.pointer (some ⟨b, 0, none⟩)] w (PNames W L b d) := by
  obtain ⟨M, SM, rs, h, hk⟩ := h
  have hown := hk.map.owns (h.pick 1 rfl)
  have hsz : Maps.size (DataW.map (asD (rs.map FR.nb))) = rs.length := by simp [Maps.size, asD]
  have hle := hk.le
  refine files_walk M (h.cellAt 0 0 0 rfl rfl rfl) (((callsIn_wide).1 (slices_Sorted_keys_68_69 M _ _ pE w hown (by rw [hsz]; unfold maxLen; omega) (by rw [hsz]; omega))).mono ?_)
  rintro e w' ⟨v, ss, rfl, hp, hrow, _, hb⟩
  refine ⟨v, rfl, ?_⟩
  have hss := sort_names (hk.map.sorted Try.underlying9) hp
  have hl : ss.length = d.fs.length := by
    have h1 := hp.length_eq
    rw [h1, ← hk.fs]
    simp [strKeys, asD]
  rw [hss, hl] at hrow
  have e : (List.map Prod.fst (rs.map FR.nb)).map encStr = d.fs.map fun f => Value.string (bstr f.name) := by
    rw [← hk.fs]
    simp [bstr, FR.nb]
  rw [e] at hrow
  obtain ⟨S, r1, r2⟩ := (h.alloc (.cells #[.map (some M)] 71)).new hb hrow
  obtain ⟨A, cap, rfl⟩ := r2.form
  refine ⟨A, cap, S, rfl, ⟨M, SM, rs, ?_, hk⟩, r2⟩
  exact (r1.swap.drop).re (by intro c hc h0; simp only [List.flatten_cons, hc]; omega)
end Go.Proofs.Ytfhoblchgeijkaa
