import Derived.Test.YtfhoblchgeijkaaRc
import Derived.Test.YtfhoblchgeijkaaFin
namespace Go.Proofs.Ytfhoblchgeijkaa
open Go.RowKit Go.Maps
variable {W w : World} {L T : List Seg} {v : Value} {l n bs : Bs} {b : Nat} {d : AD} {S : Seg}

theorem cells_one {rs : List RF} (h : ∀ r ∈ rs, r.ok) : ∀ u ∈ rs.flatMap RF.cells, u.oneCell' = true := by
  intro u hu
  obtain ⟨r, hr, hu⟩ := List.mem_flatMap.1 hu
  obtain ⟨A, c, hv⟩ := (h r hr).1.form
  simp only [RF.cells, List.mem_cons, List.not_mem_nil, or_false] at hu
  rcases hu with rfl | rfl | rfl
  · rfl
  · rw [hv]; rfl
  · rfl

theorem flat_take (rs : List RF) (i : Nat) : (rs.flatMap RF.cells).take (i * 3) = (rs.take i).flatMap RF.cells := by
  induction i generalizing rs with
  | zero => simp
  | succ i ih =>
    cases rs with
    | nil => simp
    | cons r rs =>
      simp only [List.take_succ_cons, List.flatMap_cons, ← ih rs]
      rw [List.take_append]
      have : (RF.cells r).length = 3 := rfl
      rw [this, List.take_of_length_le (by rw [this]; omega), show (i + 1) * 3 - 3 = i * 3 by omega]
theorem flat_drop (rs : List RF) (i : Nat) : (rs.flatMap RF.cells).drop (i * 3) = (rs.drop i).flatMap RF.cells := by
  induction i generalizing rs with
  | zero => simp
  | succ i ih =>
    cases rs with
    | nil => simp
    | cons r rs =>
      simp only [List.drop_succ_cons, List.flatMap_cons, ← ih rs]
      rw [List.drop_append]
      have : (RF.cells r).length = 3 := rfl
      rw [this, List.drop_eq_nil_of_le (by rw [this]; omega), show (i + 1) * 3 - 3 = i * 3 by omega, List.nil_append]

/-- A part of the files' row, from its start. -/
theorem row_take {lv : Value} {SL : Seg} {rs : List RF} (hrow : OwnS 89 3 lv rs.length (rs.flatMap RF.cells) SL) {A : Option Addr} {cap i : Nat} (hlv : lv = .slice A rs.length cap) (hi : i ≤ rs.length) :
    RS [SL] 3 (.slice A i cap) i ((rs.take i).flatMap RF.cells) := by
  refine ⟨by rw [rflat_len, List.length_take, Nat.min_eq_left hi], ?_⟩
  subst hlv
  rcases hrow.2 with ⟨h1, h2, h3⟩ | ⟨g, cap', cur, h1, h2, h3, h4, h5, h6⟩
  · left; exact ⟨by omega, A, cap, by rw [show i = 0 by omega]⟩
  · simp only [Value.slice.injEq] at h1
    obtain ⟨rfl, _, rfl⟩ := h1
    refine .inr ⟨g, 0, cap, cur, 89, (0, 0), rfl, by simp [h2], fun j u hu => ?_⟩
    rw [← flat_take, List.getElem?_take] at hu
    split at hu
    · rw [← h6, List.getElem?_take] at hu
      split at hu
      · simpa using hu
      · simp at hu
    · simp at hu

/-- .. and up to its end. -/
theorem row_drop {SL : Seg} {rs : List RF} {g cap i : Nat} (hrow : OwnS 89 3 (.slice (some ⟨g, 0, none⟩) rs.length cap) rs.length (rs.flatMap RF.cells) SL) (hi : i ≤ rs.length) :
    ∃ a, (∀ (x : Int) w, x = (i : Int) → (Instr.slice 41 (.slice (some ⟨g, 0, none⟩) rs.length cap) (some (.int .i64 x)) none none).run Try.prog w = .ok (.slice (some a) (rs.length - i) (cap - i)) w) ∧
      RS [SL] 3 (.slice (some a) (rs.length - i) (cap - i)) (rs.length - i) ((rs.drop i).flatMap RF.cells) := by
  obtain ⟨A', cap', h1, h2⟩ := hrow.cap
  simp only [Value.slice.injEq] at h1
  obtain ⟨_, _, rfl⟩ := h1
  refine ⟨(if cap = i then ⟨g, 0, none⟩ else ⟨g, i * 3, none⟩), ?_, by rw [rflat_len, List.length_drop], ?_⟩
  · intro x w hx
    subst hx
    have e3 : (sizeOf 89).run Try.prog w = .ok 3 w := by kernel_rfl
    simp [Instr.slice, run_underlying Try.underlying41, Instr.sliceBounds, Instr.sliceBound, asIntOf, hi, e3, Addr.add]
    by_cases hc : cap = i
    · simp [hc]
    · by_cases h0 : i = 0
      · subst h0; simp [hc]
      · have h3 : ¬ i * 3 = 0 := by omega
        simp [hc, h3]
  · by_cases h0 : rs.length - i = 0
    · exact .inl ⟨h0, _, _, by rw [h0]⟩
    · rw [if_neg (by omega)]
      rcases hrow.2 with ⟨h3, _⟩ | ⟨g', cap', cur, h3, h4, h5, h6, h7, h8⟩
      · simp at h3
      · simp only [Value.slice.injEq, Option.some.injEq, Addr.mk.injEq] at h3
        obtain ⟨⟨rfl, _⟩, _, rfl⟩ := h3
        refine .inr ⟨g, i * 3, cap - i, cur, 89, (0, 0), rfl, by simp [h4], fun j u hu => ?_⟩
        rw [← flat_drop, List.getElem?_drop, ← h8, List.getElem?_take] at hu
        split at hu
        · simpa using hu
        · simp at hu

theorem slice_pre {A : Option Addr} {N cap i : Nat} (hi : i ≤ cap) (x : Int) (hx : x = (i : Int)) (w : World) : (Instr.slice 41 (.slice A N cap) none (some (.int .i64 x)) none).run Try.prog w = .ok (.slice A i cap) w := by
  subst hx
  have e3 : (sizeOf 89).run Try.prog w = .ok 3 w := by kernel_rfl
  simp [Instr.slice, run_underlying Try.underlying41, Instr.sliceBounds, Instr.sliceBound, asIntOf, hi, e3, Addr.add]

/-- .. whatever the row's address. -/
theorem row_drop' {SL : Seg} {rs : List RF} {A : Option Addr} {cap i : Nat} (hrow : OwnS 89 3 (.slice A rs.length cap) rs.length (rs.flatMap RF.cells) SL) (hi : i ≤ rs.length) :
    ∃ A2, (∀ (x : Int) w, x = (i : Int) → (Instr.slice 41 (.slice A rs.length cap) (some (.int .i64 x)) none none).run Try.prog w = .ok (.slice A2 (rs.length - i) (cap - i)) w) ∧
      RS [SL] 3 (.slice A2 (rs.length - i) (cap - i)) (rs.length - i) ((rs.drop i).flatMap RF.cells) := by
  have hrow2 := hrow
  rcases hrow2.2 with ⟨h1, h2, h3⟩ | ⟨g, cap', cur, h1, h2, h3, h4, h5, h6⟩
  · simp only [Value.slice.injEq] at h1
    obtain ⟨rfl, h7, rfl⟩ := h1
    have hi0 : i = 0 := by omega
    subst hi0
    refine ⟨none, ?_, by rw [rflat_len, List.length_drop], .inl ⟨by omega, none, 0, by simp [h7]⟩⟩
    intro x w hx
    subst hx
    have e3 : (sizeOf 89).run Try.prog w = .ok 3 w := by kernel_rfl
    simp [Instr.slice, run_underlying Try.underlying41, Instr.sliceBounds, Instr.sliceBound, asIntOf, e3]
  · simp only [Value.slice.injEq] at h1
    obtain ⟨rfl, _, rfl⟩ := h1
    obtain ⟨a, h7, h8⟩ := row_drop hrow hi
    exact ⟨some a, h7, h8⟩

theorem RS.up {L' : List Seg} {size m : Nat} {x : Value} {xs : List Value} (h : RS [S] size x m xs) (hm : S ∈ L') : RS L' size x m xs :=
  h.mono (by intro p hp; simp only [List.flatten_cons, List.flatten_nil, List.append_nil] at hp; exact List.mem_flatten.2 ⟨S, hm, hp⟩)

theorem rdatas_mid (rs : List RF) (k : Nat) (hk : k < rs.length) : rdatas rs = rdatas (rs.take k) ++ (rs[k].S ++ rdatas (rs.drop (k + 1))) := by
  have e : rs = rs.take k ++ rs[k] :: rs.drop (k + 1) := by rw [List.getElem_cons_drop, List.take_append_drop]
  have e2 : rdatas (rs.take k ++ rs[k] :: rs.drop (k + 1)) = rdatas (rs.take k) ++ (rs[k].S ++ rdatas (rs.drop (k + 1))) := by unfold rdatas; rw [List.flatMap_append, List.flatMap_cons]
  rw [← e2, ← e]
theorem rdatas_sub {rs' rs : List RF} (h : rs'.Sublist rs) : (rdatas rs').Sublist (rdatas rs) := by
  unfold rdatas
  induction h with
  | slnil => exact List.Sublist.refl _
  | cons a _ ih => rw [List.flatMap_cons]; exact ih.trans (List.sublist_append_right _ _)
  | cons_cons a _ ih => rw [List.flatMap_cons, List.flatMap_cons]; exact ih.append_left _

set_option maxRecDepth 100000 in
set_option maxHeartbeats 1600000 in
theorem rdrop {SL : Seg} {rs : List RF} {g N cap i : Nat} (hN : N = rs.length) (h : H W w (rhdr b d (.slice (some ⟨g, 0, none⟩) N cap) :: SL :: rdatas rs :: L)) (hrow : OwnS 89 3 (.slice (some ⟨g, 0, none⟩) rs.length cap) rs.length (rs.flatMap RF.cells) SL)
    (hok : ∀ r ∈ rs, r.ok) (hle : rs.length ≤ 1099511627776) (hi : i < rs.length) :
    Calls Try.prog 72 #[.pointer (some ⟨b, 0, none⟩), .int .i64 i] w (PVoid fun w' => ∃ lv SL', H W w' (rhdr b d lv :: SL' :: rdatas (rs.take i ++ rs.drop (i + 1)) :: (rs[i]'hi).S :: L) ∧
      OwnS 89 3 lv (rs.take i ++ rs.drop (i + 1)).length ((rs.take i ++ rs.drop (i + 1)).flatMap RF.cells) SL') := by
  have hi0 := hi
  have hH := Lib.hid h
  have hcap : rs.length ≤ cap := by
    obtain ⟨A', cap', h1, h2⟩ := hrow.cap
    simp only [Value.slice.injEq] at h1
    obtain ⟨_, _, rfl⟩ := h1
    exact h2
  have hr1 := Lib.hid (((row_take hrow rfl (i := i) (by omega)).up (L' := [(w.heap.size, .cells #[] 89 (0, 0))] :: rhdr b d (.slice (some ⟨g, 0, none⟩) N cap) :: SL :: rdatas rs :: L) (by simp)))
  obtain ⟨a2, hsl, hr2⟩ := row_drop hrow (i := i + 1) (by omega)
  have hone1 := Lib.hid (cells_one (rs := rs.take i) fun r hr => hok r (List.mem_of_mem_take hr))
  have hone2 := Lib.hid (cells_one (rs := rs.drop (i + 1)) fun r hr => hok r (List.mem_of_mem_drop hr))
  have hr2 := Lib.hid (show ∀ S1 : Seg, RS (S1 :: rhdr b d (.slice (some ⟨g, 0, none⟩) N cap) :: SL :: rdatas rs :: L) 3 (.slice (some a2) (rs.length - (i + 1)) (cap - (i + 1))) (rs.length - (i + 1)) ((rs.drop (i + 1)).flatMap RF.cells) from
    fun S1 => hr2.up (by simp))
  rw [← hN] at hr2 hsl hcap hle hi
  have hii : (i : Int) < (N : Int) := by omega
  have hic : (i : Int) ≤ (cap : Int) := by omega
  have hsl2 : ∀ w, (Instr.slice 41 (.slice (some ⟨g, 0, none⟩) N cap) (some (.int .i64 ((i : Int) + 1))) none none).run Try.prog w = .ok (.slice (some a2) (N - (i + 1)) (cap - (i + 1))) w := fun w => hsl _ w (by omega)
  have hw1 : IntKind.i64.wrap ((i : Int) + 1) = (i : Int) + 1 := by simp [IntKind.wrap, IntKind.signed, IntKind.bits]; omega
  have hN' := Lib.hid hN
  clear h hrow hok hsl hN
  go_enter Try.func72, Try.ntmps72
  go_wp2_with fail
--REGION 0
  refine wpF_start (S := (fun w' => w'.cell? ⟨b, 0, none⟩ = some (.slice (some ⟨g, 0, none⟩) N cap))) (fins := [19]) (by kernel_rfl) ?_ (fun hHeld => ?_)
  · exact hH.out.drew.cellAt 0 0 0 rfl rfl rfl
  refine wpF_take 0 (v := ?_) hHeld (by simp only [List.getElem?_toArray, List.getElem?_cons_zero]; exact rfl) (by kernel_rfl) (by exact fun _ _ _ h => h) (by rfl) ?_ ?_
  rotate_left
  · (intro w hSw; (try dsimp only at hSw); go_simp; try with_reducible rfl)
  try simp only [Act.put, List.setIfInBounds_toArray, List.set_cons_zero, List.set_cons_succ]
  refine wpF_take 2 (v := ?_) hHeld (by simp only [List.getElem?_toArray, List.getElem?_cons_succ, List.getElem?_cons_zero]; exact rfl) (by kernel_rfl) (by exact fun _ _ _ h => h) (by rfl) ?_ ?_
  rotate_left
  · (intro w hSw; (try dsimp only at hSw); go_simp; try with_reducible rfl)
  try simp only [Act.put, List.setIfInBounds_toArray, List.set_cons_zero, List.set_cons_succ]
  refine wpF_take 3 (v := ?_) hHeld (by simp only [List.getElem?_toArray, List.getElem?_cons_succ, List.getElem?_cons_zero]; exact rfl) (by kernel_rfl) (by exact fun _ _ _ h => h) (by rfl) ?_ ?_
  rotate_left
  · (intro w hSw; (try dsimp only at hSw); go_simp; try with_reducible rfl)
  try simp only [Act.put, List.setIfInBounds_toArray, List.set_cons_zero, List.set_cons_succ]
  refine wpF_take 4 (v := ?_) hHeld (by simp only [List.getElem?_toArray, List.getElem?_cons_succ, List.getElem?_cons_zero]; exact rfl) (by kernel_rfl) (by exact fun _ _ _ h => h) (by rfl) ?_ ?_
  rotate_left
  · (intro w hSw; (try dsimp only at hSw); go_simp; try with_reducible rfl)
  try simp only [Act.put, List.setIfInBounds_toArray, List.set_cons_zero, List.set_cons_succ]
  refine wpF_take 5 (v := ?_) hHeld (by simp only [List.getElem?_toArray, List.getElem?_cons_succ, List.getElem?_cons_zero]; exact rfl) (by kernel_rfl) (by exact fun _ _ _ h => h) (by rfl) ?_ ?_
  rotate_left
  · (intro w hSw; (try dsimp only at hSw); go_simp; try with_reducible rfl)
  try simp only [Act.put, List.setIfInBounds_toArray, List.set_cons_zero, List.set_cons_succ]
  refine wpF_take 6 (v := ?_) hHeld (by simp only [List.getElem?_toArray, List.getElem?_cons_succ, List.getElem?_cons_zero]; exact rfl) (by kernel_rfl) (by exact fun _ _ _ h => h) (by rfl) ?_ ?_
  rotate_left
  · (intro w hSw; (try dsimp only at hSw); go_simp; try with_reducible rfl)
  try simp only [Act.put, List.setIfInBounds_toArray, List.set_cons_zero, List.set_cons_succ]
  refine wpF_take 7 (v := ?_) hHeld (by simp only [List.getElem?_toArray, List.getElem?_cons_succ, List.getElem?_cons_zero]; exact rfl) (by kernel_rfl) (by exact fun _ _ _ h => h) (by rfl) ?_ ?_
  rotate_left
  · (intro w hSw; (try dsimp only at hSw); go_simp; try with_reducible rfl)
  try simp only [Act.put, List.setIfInBounds_toArray, List.set_cons_zero, List.set_cons_succ]
  refine wpF_take 9 (v := ?_) hHeld (by simp only [List.getElem?_toArray, List.getElem?_cons_succ, List.getElem?_cons_zero]; exact rfl) (by kernel_rfl) (by exact fun _ _ _ h => h) (by rfl) ?_ ?_
  rotate_left
  · (intro w hSw; (try dsimp only at hSw); go_simp; try with_reducible rfl)
  try simp only [Act.put, List.setIfInBounds_toArray, List.set_cons_zero, List.set_cons_succ]
  refine wpF_take 10 (v := ?_) hHeld (by simp only [List.getElem?_toArray, List.getElem?_cons_succ, List.getElem?_cons_zero]; exact rfl) (by kernel_rfl) (by exact fun _ _ _ h => h) (by rfl) ?_ ?_
  rotate_left
  · (intro w hSw; (try dsimp only at hSw); go_simp; try with_reducible rfl)
  try simp only [Act.put, List.setIfInBounds_toArray, List.set_cons_zero, List.set_cons_succ]
  refine wpF_take 11 (v := ?_) hHeld (by simp only [List.getElem?_toArray, List.getElem?_cons_succ, List.getElem?_cons_zero]; exact rfl) (by kernel_rfl) (by exact fun _ _ _ h => h) (by rfl) ?_ ?_
  rotate_left
  · (intro w hSw; (try dsimp only at hSw); go_simp; try with_reducible rfl)
  try simp only [Act.put, List.setIfInBounds_toArray, List.set_cons_zero, List.set_cons_succ]
  refine wpF_take 12 (v := ?_) hHeld (by simp only [List.getElem?_toArray, List.getElem?_cons_succ, List.getElem?_cons_zero]; exact rfl) (by kernel_rfl) (by exact fun _ _ _ h => h) (by rfl) ?_ ?_
  rotate_left
  · (intro w hSw; (try dsimp only at hSw); go_simp; try with_reducible rfl)
  try simp only [Act.put, List.setIfInBounds_toArray, List.set_cons_zero, List.set_cons_succ]
  refine wpF_take 13 (v := ?_) hHeld (by simp only [List.getElem?_toArray, List.getElem?_cons_succ, List.getElem?_cons_zero]; exact rfl) (by kernel_rfl) (by exact fun _ _ _ h => h) (by rfl) ?_ ?_
  rotate_left
  · (intro w hSw; (try dsimp only at hSw); go_simp; try with_reducible rfl)
  try simp only [Act.put, List.setIfInBounds_toArray, List.set_cons_zero, List.set_cons_succ]
  refine wpF_take 14 (v := ?_) hHeld (by simp only [List.getElem?_toArray, List.getElem?_cons_succ, List.getElem?_cons_zero]; exact rfl) (by kernel_rfl) (by exact fun _ _ _ h => h) (by rfl) ?_ ?_
  rotate_left
  · (intro w hSw; (try dsimp only at hSw); go_simp; try with_reducible rfl)
  try simp only [Act.put, List.setIfInBounds_toArray, List.set_cons_zero, List.set_cons_succ]
  refine wpF_take 15 (v := ?_) hHeld (by simp only [List.getElem?_toArray, List.getElem?_cons_succ, List.getElem?_cons_zero]; exact rfl) (by kernel_rfl) (by exact fun _ _ _ h => h) (by rfl) ?_ ?_
  rotate_left
  · (intro w hSw; (try dsimp only at hSw); go_simp; try with_reducible rfl)
  try simp only [Act.put, List.setIfInBounds_toArray, List.set_cons_zero, List.set_cons_succ]
  refine wpF_one 1 (by simp only [List.getElem?_toArray, List.getElem?_cons_succ, List.getElem?_cons_zero]; exact rfl) (by kernel_rfl) (fun K hK => ?_)
  go_simp
  refine hK _ _ ?_ (fun hHeld => ?_)
  · exact (hH.out.drew.alloc _).cellAt 1 0 0 rfl rfl rfl
  clear hK K
  try simp only [Act.put, List.setIfInBounds_toArray, List.set_cons_zero, List.set_cons_succ]
  refine wpF_one 8 (by simp only [List.getElem?_toArray, List.getElem?_cons_succ, List.getElem?_cons_zero]; exact rfl) (by kernel_rfl) (fun K hK => ?_)
  refine step_append rfl (.tmp 5) (.tmp 11) rfl et41 (by simp [Act.eval]) (by simp [Act.eval]) (hH.out.drew.alloc (.cells #[] 89)) (hH.out.drew.lit #[] 0 (by simp [maxLen]) rfl) hr1.out hone1.out (by omega) (by omega) ?_
  intro A1 c1 w1 S1 h1 h2
  simp only [Nat.zero_add, List.nil_append] at h2 ⊢
  refine hK _ _ ?_ (fun hHeld => ?_)
  · exact h1.cellAt 1 0 0 rfl rfl rfl
  clear hK K
  try simp only [Act.put, List.setIfInBounds_toArray, List.set_cons_zero, List.set_cons_succ]
  refine wpF_one 16 (by simp only [List.getElem?_toArray, List.getElem?_cons_succ, List.getElem?_cons_zero]; exact rfl) (by kernel_rfl) (fun K hK => ?_)
  refine step_append rfl (.tmp 12) (.tmp 19) rfl et41 (by simp [Act.eval]) (by simp [Act.eval]) h1 h2 (hr2.out S1) hone2.out (by omega) (by omega) ?_
  intro A2 c2 w2 S2 h3 h4
  have hb2 := h3.ltAt 1 0 rfl rfl
  refine hK _ _ ?_ (fun hHeld => ?_)
  · exact h3.cellAt 1 0 0 rfl rfl rfl
  clear hK K
  try simp only [Act.put, List.setIfInBounds_toArray, List.set_cons_zero, List.set_cons_succ]
  refine wpF_one 17 (by simp only [List.getElem?_toArray, List.getElem?_cons_succ, List.getElem?_cons_zero]; exact rfl) (by kernel_rfl) (fun K hK => ?_)
  go_simp
  refine hK _ _ ?_ (fun hHeld => ?_)
  · exact hHeld
  clear hK K
  try simp only [Act.put, List.setIfInBounds_toArray, List.set_cons_zero, List.set_cons_succ]
  refine wpF_take 18 (v := ?_) hHeld (by simp only [List.getElem?_toArray, List.getElem?_cons_succ, List.getElem?_cons_zero]; exact rfl) (by kernel_rfl) (by exact fun _ _ _ h => h) (by rfl) ?_ ?_
  rotate_left
  · (intro w hSw; (try dsimp only at hSw); go_simp; try with_reducible rfl)
  try simp only [Act.put, List.setIfInBounds_toArray, List.set_cons_zero, List.set_cons_succ]
  refine wpF_last 19 (by simp only [List.getElem?_toArray, List.getElem?_cons_succ, List.getElem?_cons_zero]; exact rfl) (by kernel_rfl) (by decide) (fun K hK => ?_)
  have g1 : w2.cell? ⟨b, 0, none⟩ = some (.slice (some ⟨g, 0, none⟩) N cap) := h3.cellAt 1 0 0 rfl rfl rfl
  have g2 : w2.frozen? ⟨b, 0, none⟩ = false := h3.freeAt 1 0 0 rfl rfl
  go_simp
  refine hK _ _ ?_
  clear hK K
  try simp only [Act.put, List.setIfInBounds_toArray, List.set_cons_zero, List.set_cons_succ]
  refine wpF_done (by kernel_rfl) ?_
--END 0
  go_wp2
  go_end0
  have hl : (rs.take i ++ rs.drop (i + 1)).length = i + (N - (i + 1)) := by have := hN'.out; rw [List.length_append, List.length_take, List.length_drop]; omega
  refine ⟨rfl, .slice A2 (i + (N - (i + 1))) c2, S2, ?_, ?_⟩
  · have hf := (h3.pick 1 rfl).setCell 0 (.slice A2 (i + (N - (i + 1))) c2)
    have hf2 : H W _ (rhdr b d (.slice A2 (i + (N - (i + 1))) c2) :: S2 :: rdatas rs :: L) := ((show H W _ (rhdr b d (.slice A2 (i + (N - (i + 1))) c2) :: S2 :: SL :: rdatas rs :: L) from hf).pick 2 rfl).drop
    have em := rdatas_mid rs i hi0
    have e2 : rdatas (rs.take i ++ rs.drop (i + 1)) = rdatas (rs.take i) ++ rdatas (rs.drop (i + 1)) := by unfold rdatas; rw [List.flatMap_append]
    rw [em] at hf2
    rw [e2]
    exact hf2.re (by intro c hc h0; simp only [List.flatten_cons, hc]; omega)
  · rw [hl, List.flatMap_append]
    exact h4
end Go.Proofs.Ytfhoblchgeijkaa
