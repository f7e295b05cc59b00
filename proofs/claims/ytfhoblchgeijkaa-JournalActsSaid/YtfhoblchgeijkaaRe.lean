import Derived.Test.YtfhoblchgeijkaaRd
namespace Go.Proofs.Ytfhoblchgeijkaa
open Go.RowKit Go.Maps
variable {W w : World} {L T : List Seg} {v : Value} {l n bs : Bs} {b : Nat} {d : AD} {S : Seg}

/-- Where the reference lays a new file: ahead of the first whose name is not smaller. -/
def putIdx (n : Bs) : List AF → Nat
  | [] => 0
  | f :: r => if bytesBefore f.name n then putIdx n r + 1 else 0
theorem putIdx_at (n : Bs) : ∀ (fs : List AF) (k : Nat), k ≤ fs.length → (∀ j (hj : j < fs.length), j < k → bytesBefore fs[j].name n = true) → (∀ hk : k < fs.length, bytesBefore fs[k].name n = false) → putIdx n fs = k
  | [], k, h, _, _ => by simp at h; subst h; rfl
  | f :: r, 0, _, _, h => by
    have := h (by simp)
    simp only [List.getElem_cons_zero] at this
    unfold putIdx; simp [this]
  | f :: r, k + 1, h, h1, h2 => by
    have h0 := h1 0 (by simp) (by omega)
    simp only [List.getElem_cons_zero] at h0
    unfold putIdx
    rw [if_pos h0, putIdx_at n r k (by simpa using h) (fun j hj hjk => by have := h1 (j + 1) (by simp; exact hj) (by omega); simpa using this) (fun hk => by have := h2 (by simp; exact hk); simpa using this)]

theorem bless (a c : Bs) : Op.bytesLess (bstr a).toList (bstr c).toList = bytesBefore a c := by
  rw [bstr_toList, bstr_toList]
  induction a generalizing c with
  | nil => cases c <;> rfl
  | cons x a ih =>
    cases c with
    | nil => rfl
    | cons y c =>
      unfold Op.bytesLess bytesBefore
      rw [ih c]
      try rfl

set_option maxRecDepth 100000 in
set_option maxHeartbeats 1600000 in
theorem rput {lv : Value} {SL : Seg} {rs : List RF} {r : RF} (h : H W w (rhdr b d lv :: SL :: rdatas rs :: r.S :: L)) (hrow : OwnS 89 3 lv rs.length (rs.flatMap RF.cells) SL)
    (hfs : rs.map RF.a = d.fs) (hok : ∀ r ∈ rs, r.ok) (hr : r.ok) (hle : rs.length < 1099511627776) (k0 : Nat) (hk0 : putIdx r.a.name d.fs = k0) :
    Calls Try.prog 64 #[.pointer (some ⟨b, 0, none⟩), .agg #[.string (bstr r.a.name), r.v, .int .i64 r.a.dur]] w (PVoid fun w' => ∃ lv SL', H W w' (rhdr b d lv :: SL' :: rdatas (rs.take k0 ++ r :: rs.drop k0) :: L) ∧
      OwnS 89 3 lv (rs.length + 1) ((rs.take k0 ++ r :: rs.drop k0).flatMap RF.cells) SL') := by
  obtain ⟨A, cap, rfl⟩ := hrow.form
  obtain ⟨Av, cv, hv⟩ := hr.1.form
  have hH := Lib.hid (h.alloc (.cells #[.string (bstr r.a.name), r.v, .int .i64 r.a.dur] 89))
  have hlen : rs.length = d.fs.length := by rw [← hfs, List.length_map]
  have hnm : ∀ k (hk : k < rs.length) (hk2 : k < d.fs.length), d.fs[k].name = rs[k].a.name := by intro k hk hk2; simp [← hfs]
  have hnm' := Lib.hid hnm
  have hrow' := Lib.hid hrow
  have hok' := Lib.hid hok
  have hr' := Lib.hid hr
  have hlen' := Lib.hid hlen
  have hk0' := Lib.hid hk0
  have hv' := Lib.hid hv
  rw [hv] at hH ⊢
  obtain ⟨nm, hnme⟩ : ∃ nm, r.a.name = nm := ⟨_, rfl⟩
  rw [hnme] at hH hk0' ⊢
  obtain ⟨dl, hdl⟩ : ∃ dl, r.a.data.length = dl := ⟨_, rfl⟩
  rw [hdl] at hH ⊢
  have hnme' := Lib.hid hnme
  have hdl' := Lib.hid hdl
  clear h hrow hfs hok hr hnm hlen hk0 hv hnme hdl
  go_enter Try.func64, Try.ntmps64
  go_wp2_with fail
  go_loopw [4] (fun i wr => ∃ k : Nat, k ≤ rs.length ∧ i = .int .i64 k ∧ H W wr ([(w.heap.size, .cells #[.string (bstr nm), .slice Av dl cv, .int .i64 r.a.dur] 89 (0, 0))] :: rhdr b d (.slice A rs.length cap) :: SL :: rdatas rs :: r.S :: L) ∧ ∀ j (hj : j < rs.length), j < k → bytesBefore rs[j].a.name nm = true) (fun i _ => rs.length - (intOf i).toNat)
  case atStart => exact ⟨0, Nat.zero_le _, rfl, hH.out, fun j _ hj => by omega⟩
  case round =>
    obtain ⟨k, hk, rfl, h1, hall⟩ := hrel
    have hall' := Lib.hid hall
    have h1' := Lib.hid h1
    have c0 : wr.cell? ⟨b, 0, none⟩ = some (.slice A rs.length cap) := h1.cellAt 1 0 0 rfl rfl rfl
    have c5 : wr.cell? ⟨w.heap.size, 0, none⟩ = some (.string (bstr nm)) := h1.cellAt 0 0 0 rfl rfl rfl
    have hbW : b < wr.heap.size := h1.ltAt 1 0 rfl rfl
    clear h1 hall
    by_cases hgo : ∃ hlt : k < rs.length, bytesBefore rs[k].a.name nm = true
    · obtain ⟨hlt, hc⟩ := hgo
      have hki : (k : Int) < (rs.length : Int) := by omega
      have hkd : decide ((k : Int) < (rs.length : Int)) = true := by simpa using hki
      obtain ⟨g, cap', cur, e1, e2, _, _, e5⟩ := rrow hrow'.out (by omega)
      obtain ⟨rfl, rfl⟩ : A = some ⟨g, 0, none⟩ ∧ cap = cap' := by simpa using e1
      have c1 : wr.cell? ⟨g, k * 3, none⟩ = some (.string (bstr rs[k].a.name)) :=
        h1'.out.cellAt 2 0 (k * 3) (by rw [e2]; rfl) rfl (by have := e5 k hlt 0 (by decide); rw [Nat.add_zero] at this; rw [this]; rfl)
      have hbl := bless rs[k].a.name nm
      clear e1 e2 e5
      rw [hc] at hbl
      have hc' := Lib.hid hc
      clear hc
      go_wp2_with fail
      go_quiet (fail)
      go_wp2_with fail
      refine ⟨⟨k + 1, by omega, by go_num, h1'.out.drewN nq, fun j hj hjk => ?_⟩, by simp [intOf]; omega⟩
      rcases Nat.lt_or_ge j k with h2 | h2
      · exact hall'.out j hj h2
      · have : j = k := by omega
        subst this; exact hc'.out
    · have hput : k = k0 := by
        rw [← hk0'.out]
        refine (putIdx_at nm d.fs k (by rw [← hlen'.out]; exact hk) (fun j hj hjk => ?_) (fun hk2 => ?_)).symm
        · rw [hnm'.out j (by rw [hlen'.out]; exact hj) hj]; exact hall'.out j (by rw [hlen'.out]; exact hj) hjk
        · have hlt : k < rs.length := by rw [hlen'.out]; exact hk2
          rw [hnm'.out k hlt hk2]
          cases hc : bytesBefore rs[k].a.name nm
          · rfl
          · exact absurd ⟨hlt, hc⟩ hgo
      have hput' := Lib.hid hput
      clear hput
      have hcap : rs.length ≤ cap := by
        obtain ⟨A', cap', e1, e2⟩ := hrow'.out.cap
        simp only [Value.slice.injEq] at e1
        obtain ⟨_, _, rfl⟩ := e1
        exact e2
      have hs1 : ∀ w, (Instr.slice 41 (.slice A rs.length cap) none (some (.int .i64 (k : Int))) none).run Try.prog w = .ok (.slice A k cap) w := fun w => slice_pre (by omega) _ rfl w
      obtain ⟨A2, hs2a, hr2⟩ := row_drop' hrow'.out hk
      have hs2 : ∀ w, (Instr.slice 41 (.slice A rs.length cap) (some (.int .i64 (k : Int))) none none).run Try.prog w = .ok (.slice A2 (rs.length - k) (cap - k)) w := fun w => hs2a _ w rfl
      have hr1 := Lib.hid (row_take hrow'.out rfl (i := k) hk)
      have hr2' := Lib.hid hr2
      have hone1 := Lib.hid (cells_one (rs := rs.take k) fun r hr => hok'.out r (List.mem_of_mem_take hr))
      have hone2 := Lib.hid (cells_one (rs := rs.drop k) fun r hr => hok'.out r (List.mem_of_mem_drop hr))
      have hone3 := Lib.hid (show ∀ u ∈ [Value.string (bstr nm), .slice Av dl cv, .int .i64 r.a.dur], u.oneCell' = true by intro u hu; simp at hu; rcases hu with rfl | rfl | rfl <;> rfl)
      clear hs2a hr2
      have hcase : (k < rs.length ∧ ∃ hlt : k < rs.length, bytesBefore rs[k].a.name nm = false) ∨ k = rs.length := by
        rcases Nat.lt_or_ge k rs.length with h2 | h2
        · left
          refine ⟨h2, h2, ?_⟩
          cases hc : bytesBefore rs[k].a.name nm
          · rfl
          · exact absurd ⟨h2, hc⟩ hgo
        · right; omega
      clear hgo
      have hkd : decide ((k : Int) < (rs.length : Int)) = decide (k < rs.length) := by simp
      rcases hcase with ⟨hlt, _, hc⟩ | hkn
      · have hki : (k : Int) < (rs.length : Int) := by omega
        have hkd1 : decide ((k : Int) < (rs.length : Int)) = true := by simpa using hki
        clear hkd
        obtain ⟨g, cap', cur, e1, e2, _, _, e5⟩ := rrow hrow'.out (by omega)
        obtain ⟨rfl, rfl⟩ : A = some ⟨g, 0, none⟩ ∧ cap = cap' := by simpa using e1
        have c1 : wr.cell? ⟨g, k * 3, none⟩ = some (.string (bstr rs[k].a.name)) :=
          h1'.out.cellAt 2 0 (k * 3) (by rw [e2]; rfl) rfl (by have := e5 k hlt 0 (by decide); rw [Nat.add_zero] at this; rw [this]; rfl)
        have hbl := bless rs[k].a.name nm
        clear e1 e2 e5
        rw [hc] at hbl
        clear hc
        go_wp2_with fail
        go_quiet (fail)
        have d1 : (wr.drewN nq).cell? ⟨b, 0, none⟩ = some (.slice (some ⟨g, 0, none⟩) rs.length cap) := (h1'.out.drewN nq).cellAt 1 0 0 rfl rfl rfl
        have d2 : b < (wr.drewN nq).heap.size := (h1'.out.drewN nq).ltAt 1 0 rfl rfl
        have d3 : ((wr.drewN nq).alloc (.cells #[] 89)).cell? ⟨b, 0, none⟩ = some (.slice (some ⟨g, 0, none⟩) rs.length cap) := ((h1'.out.drewN nq).alloc _).cellAt 2 0 0 rfl rfl rfl
        go_wp2_with (first
          | (at_builtin; refine wpl_append rfl (.tmp 28) (.tmp 34) rfl et41 rfl rfl ((h1'.out.drewN nq).alloc (.cells #[] 89)) ((h1'.out.drewN nq).lit #[] 0 (by simp [maxLen]) rfl) (hr1.out.up (by simp)) hone1.out (by omega) (by omega) ?_; intro A3 c3 w3 S3 h3 h4
             have m0 : w3.cell? ⟨b, 0, none⟩ = some (.slice (some ⟨g, 0, none⟩) rs.length cap) := h3.cellAt 2 0 0 rfl rfl rfl
             have m5 : w3.cell? ⟨w.heap.size, 0, none⟩ = some (.string (bstr nm)) := h3.cellAt 1 0 0 rfl rfl rfl
             have m6 : w3.cell? ⟨w.heap.size, 1, none⟩ = some (.slice Av dl cv) := h3.cellAt 1 0 1 rfl rfl rfl
             have m7 : w3.cell? ⟨w.heap.size, 2, none⟩ = some (.int .i64 r.a.dur) := h3.cellAt 1 0 2 rfl rfl rfl
             have h3' := Lib.hid h3
             have h4' := Lib.hid (show OwnS 89 3 (.slice A3 k c3) k ((rs.take k).flatMap RF.cells) S3 by simpa using h4)
             clear h3 h4)
          | (at_builtin; refine wpl_append rfl (.tmp 36) (.tmp 38) rfl et41 rfl rfl ((h3'.out.alloc (.cells #[.string (bstr nm), .slice Av dl cv, .int .i64 r.a.dur] 89)).swap) h4'.out (((h3'.out.lit (E := 89) (size := 3) #[.string (bstr nm), .slice Av dl cv, .int .i64 r.a.dur] 1 (of_decide_eq_true rfl) rfl).rs _).cons S3) hone3.out (by omega) (by omega) ?_; intro A4 c4 w4 S4 h5 h6
             have p0 : w4.cell? ⟨b, 0, none⟩ = some (.slice (some ⟨g, 0, none⟩) rs.length cap) := h5.cellAt 3 0 0 rfl rfl rfl
             have h5' := Lib.hid h5
             have h6' := Lib.hid h6
             clear h5 h6)
          | (at_builtin; refine wpl_append rfl (.tmp 41) (.tmp 47) rfl et41 rfl rfl h5'.out h6'.out (hr2'.out.up (by simp)) hone2.out (by omega) (by omega) ?_; intro A5 c5 w5 S5 h7 h8
             have p1 : w5.cell? ⟨b, 0, none⟩ = some (.slice (some ⟨g, 0, none⟩) rs.length cap) := h7.cellAt 3 0 0 rfl rfl rfl
             have p2 : w5.frozen? ⟨b, 0, none⟩ = false := h7.freeAt 3 0 0 rfl rfl
             have h7' := Lib.hid h7
             have h8' := Lib.hid h8
             clear h7 h8))
        go_end0
        have hf := (h7'.out.pick 3 rfl).setCell 0 (.slice A5 (k + 1 + (rs.length - k)) c5)
        have hf2 : H W _ (rhdr b d (.slice A5 (k + 1 + (rs.length - k)) c5) :: S5 :: [(w3.heap.size, .cells #[.string (bstr nm), .slice Av dl cv, .int .i64 r.a.dur] 89 (0, 0))] :: [(w.heap.size, .cells #[.string (bstr nm), .slice Av dl cv, .int .i64 r.a.dur] 89 (0, 0))] :: SL :: rdatas rs :: r.S :: L) := hf
        have hf3 : H W _ (rhdr b d (.slice A5 (k + 1 + (rs.length - k)) c5) :: S5 :: rdatas rs :: r.S :: L) := ((hf2.pick 2 rfl).drop.pick 2 rfl).drop.pick 2 rfl |>.drop
        have hks : k = k0 := hput'.out
        subst hks
        refine ⟨rfl, .slice A5 (k + 1 + (rs.length - k)) c5, S5, ?_, ?_⟩
        · have e : rdatas (rs.take k ++ r :: rs.drop k) = rdatas (rs.take k) ++ (r.S ++ rdatas (rs.drop k)) := by simp [rdatas]
          have e2 : rdatas rs = rdatas (rs.take k) ++ rdatas (rs.drop k) := by unfold rdatas; rw [← List.flatMap_append, List.take_append_drop]
          rw [e]
          rw [e2] at hf3
          exact hf3.re (by intro c hc h0; simp only [List.flatten_cons, hc]; omega)
        · have h9 := h8'.out
          have ec : k + 1 + (rs.length - k) = rs.length + 1 := by omega
          rw [ec] at h9 ⊢
          have er : r.cells = [.string (bstr nm), .slice Av dl cv, .int .i64 r.a.dur] := by unfold RF.cells; rw [hnme'.out, hv'.out, hdl'.out]
          rw [er, ← List.append_assoc]
          exact h9
      · have hkd1 : decide ((k : Int) < (rs.length : Int)) = false := by simp; omega
        have hki : ¬ (k : Int) < (rs.length : Int) := by omega
        have hkj : ¬ k < rs.length := by omega
        have hkd2 : decide (k < rs.length) = false := by simp; omega
        have hkn' := Lib.hid hkn
        clear hkd hkn
        go_wp2_with fail
        go_quiet (fail)
        have d1 : (wr.drewN nq).cell? ⟨b, 0, none⟩ = some (.slice A rs.length cap) := (h1'.out.drewN nq).cellAt 1 0 0 rfl rfl rfl
        have d2 : b < (wr.drewN nq).heap.size := (h1'.out.drewN nq).ltAt 1 0 rfl rfl
        have d3 : ((wr.drewN nq).alloc (.cells #[] 89)).cell? ⟨b, 0, none⟩ = some (.slice A rs.length cap) := ((h1'.out.drewN nq).alloc _).cellAt 2 0 0 rfl rfl rfl
        go_wp2_with (first
          | (at_builtin; refine wpl_append rfl (.tmp 28) (.tmp 34) rfl et41 rfl rfl ((h1'.out.drewN nq).alloc (.cells #[] 89)) ((h1'.out.drewN nq).lit #[] 0 (by simp [maxLen]) rfl) (hr1.out.up (by simp)) hone1.out (by omega) (by omega) ?_; intro A3 c3 w3 S3 h3 h4
             have m0 : w3.cell? ⟨b, 0, none⟩ = some (.slice A rs.length cap) := h3.cellAt 2 0 0 rfl rfl rfl
             have m5 : w3.cell? ⟨w.heap.size, 0, none⟩ = some (.string (bstr nm)) := h3.cellAt 1 0 0 rfl rfl rfl
             have m6 : w3.cell? ⟨w.heap.size, 1, none⟩ = some (.slice Av dl cv) := h3.cellAt 1 0 1 rfl rfl rfl
             have m7 : w3.cell? ⟨w.heap.size, 2, none⟩ = some (.int .i64 r.a.dur) := h3.cellAt 1 0 2 rfl rfl rfl
             have h3' := Lib.hid h3
             have h4' := Lib.hid (show OwnS 89 3 (.slice A3 k c3) k ((rs.take k).flatMap RF.cells) S3 by simpa using h4)
             clear h3 h4)
          | (at_builtin; refine wpl_append rfl (.tmp 36) (.tmp 38) rfl et41 rfl rfl ((h3'.out.alloc (.cells #[.string (bstr nm), .slice Av dl cv, .int .i64 r.a.dur] 89)).swap) h4'.out (((h3'.out.lit (E := 89) (size := 3) #[.string (bstr nm), .slice Av dl cv, .int .i64 r.a.dur] 1 (of_decide_eq_true rfl) rfl).rs _).cons S3) hone3.out (by omega) (by omega) ?_; intro A4 c4 w4 S4 h5 h6
             have p0 : w4.cell? ⟨b, 0, none⟩ = some (.slice A rs.length cap) := h5.cellAt 3 0 0 rfl rfl rfl
             have h5' := Lib.hid h5
             have h6' := Lib.hid h6
             clear h5 h6)
          | (at_builtin; refine wpl_append rfl (.tmp 41) (.tmp 47) rfl et41 rfl rfl h5'.out h6'.out (hr2'.out.up (by simp)) hone2.out (by omega) (by omega) ?_; intro A5 c5 w5 S5 h7 h8
             have p1 : w5.cell? ⟨b, 0, none⟩ = some (.slice A rs.length cap) := h7.cellAt 3 0 0 rfl rfl rfl
             have p2 : w5.frozen? ⟨b, 0, none⟩ = false := h7.freeAt 3 0 0 rfl rfl
             have h7' := Lib.hid h7
             have h8' := Lib.hid h8
             clear h7 h8))
        go_end0
        have hf := (h7'.out.pick 3 rfl).setCell 0 (.slice A5 (k + 1 + (rs.length - k)) c5)
        have hf2 : H W _ (rhdr b d (.slice A5 (k + 1 + (rs.length - k)) c5) :: S5 :: [(w3.heap.size, .cells #[.string (bstr nm), .slice Av dl cv, .int .i64 r.a.dur] 89 (0, 0))] :: [(w.heap.size, .cells #[.string (bstr nm), .slice Av dl cv, .int .i64 r.a.dur] 89 (0, 0))] :: SL :: rdatas rs :: r.S :: L) := hf
        have hf3 : H W _ (rhdr b d (.slice A5 (k + 1 + (rs.length - k)) c5) :: S5 :: rdatas rs :: r.S :: L) := ((hf2.pick 2 rfl).drop.pick 2 rfl).drop.pick 2 rfl |>.drop
        have hks : k = k0 := hput'.out
        subst hks
        refine ⟨rfl, .slice A5 (k + 1 + (rs.length - k)) c5, S5, ?_, ?_⟩
        · have e : rdatas (rs.take k ++ r :: rs.drop k) = rdatas (rs.take k) ++ (r.S ++ rdatas (rs.drop k)) := by simp [rdatas]
          have e2 : rdatas rs = rdatas (rs.take k) ++ rdatas (rs.drop k) := by unfold rdatas; rw [← List.flatMap_append, List.take_append_drop]
          rw [e]
          rw [e2] at hf3
          exact hf3.re (by intro c hc h0; simp only [List.flatten_cons, hc]; omega)
        · have h9 := h8'.out
          have ec : k + 1 + (rs.length - k) = rs.length + 1 := by omega
          rw [ec] at h9 ⊢
          have er : r.cells = [.string (bstr nm), .slice Av dl cv, .int .i64 r.a.dur] := by unfold RF.cells; rw [hnme'.out, hv'.out, hdl'.out]
          rw [er, ← List.append_assoc]
          exact h9
end Go.Proofs.Ytfhoblchgeijkaa
