import Derived.Test.YtggphdbifjoflaaXg
namespace Go.Proofs.Ytggphdbifjoflaa
open Go.RowKit
variable {W w : World} {L : List Seg} {v : Value} {l : List UInt8} {b : Nat} {N x y : Int} {ps : List Pcl}

theorem filt_keep_len (q : Pcl → Bool) (rs : List PR) : (rs.filter fun r => q r.p).length + (keep q rs).length = rs.length := by
  rw [← List.length_append]; exact (filter_split q rs).length_eq

def PRDisc (W : World) (L : List Seg) (b : Nat) (N : Int) (q : Pcl → Bool) (rs : List PR) (e : Ending) (w' : World) : Prop :=
  ∃ A' c' SP, e = .returned (.int .i64 ((rs.filter fun r => q r.p).length : Nat)) ∧ H W w' (rhdr b N (.slice A' (keep q rs).length c') :: SP :: datas rs :: L) ∧
    OwnS 43 3 (.slice A' (keep q rs).length c') (keep q rs).length ((keep q rs).flatMap PR.cells) SP

set_option maxRecDepth 100000 in
set_option maxHeartbeats 3200000 in
theorem rdisc_in {rs : List PR} {A : Option Addr} {n cap : Nat} {gv : Int} {SP : Seg} (h : H W w (rhdr b N (.slice A n cap) :: SP :: datas rs :: L))
    (hs : OwnS 43 3 (.slice A n cap) n (rs.flatMap PR.cells) SP) (hlen : rs.length = n) (hn : n ≤ 4096)
    (hok : ∀ r ∈ rs, okP r.p) (hv : ∀ r ∈ rs, ∃ A m c, r.v = .slice A m c) :
    Calls Try.prog 23 #[.pointer (some ⟨b, 0, none⟩), .int .i64 gv] w (PRDisc W L b N (fun p => discB gv p.f p.t) rs) := by
  have hq1 : w.cell? ⟨b, 1, none⟩ = some (.slice A n cap) := h.cellAt 0 0 1 rfl rfl rfl
  have h' := Lib.hid h
  have hs' := Lib.hid hs
  have hlen' := Lib.hid hlen
  have hok' := Lib.hid hok
  have hv' := Lib.hid hv
  clear h hs hlen hok hv
  go_enter Try.func23, Try.ntmps23
  go_wp2_with fail
  go_loopw [5, 6] (fun r i wr => ∃ k m2 : Nat, ∃ A2 : Option Addr, ∃ c2 : Nat, ∃ S2 : Seg, i = .int .i64 k ∧ k ≤ n ∧ r = .slice A2 m2 c2 ∧ m2 ≤ k ∧
      H W wr (S2 :: rhdr b N (.slice A n cap) :: SP :: datas rs :: L) ∧
      m2 = (keep (fun p => discB gv p.f p.t) (rs.take k)).length ∧ OwnS 43 3 (.slice A2 m2 c2) m2 ((keep (fun p => discB gv p.f p.t) (rs.take k)).flatMap PR.cells) S2) (fun _ i _ => n - (intOf i).toNat)
  case atStart => exact ⟨0, 0, none, 0, [], rfl, Nat.zero_le _, rfl, Nat.le_refl _, h'.out.addNil, by simp [keep], by simpa [keep] using OwnS.nil 43 3⟩
  case round =>
    obtain ⟨k, m2, A2, c2, S2, rfl, hk, rfl, hm2, hH, he2, ho2⟩ := hrel
    have hH' := Lib.hid hH
    have he2' := Lib.hid he2
    have ho2' := Lib.hid ho2
    clear hq1
    have hq2 : wr.cell? ⟨b, 1, none⟩ = some (.slice A n cap) := hH.cellAt 1 0 1 rfl rfl rfl
    have hq3 : wr.frozen? ⟨b, 1, none⟩ = false := hH.freeAt 1 0 1 rfl rfl
    clear hH he2 ho2
    by_cases hlt : k < n
    · have hkr : k < rs.length := by rw [hlen'.out]; exact hlt
      obtain ⟨g, capg, hvs⟩ : ∃ g capg, (Value.slice A n cap) = .slice (some ⟨g, 0, none⟩) n capg := by
        rcases hs'.out.2 with ⟨hv0, hn0, _⟩ | ⟨g, cap', cur, hv0, _⟩
        · omega
        · exact ⟨g, cap', hv0⟩
      obtain ⟨rfl, rfl⟩ := by simpa using hvs
      have R := rows3g hs'.out hH'.out (fun p hp => by simp [hp]) hlen'.out
      obtain ⟨B1, n1, d1, hvk⟩ := hv'.out _ (List.getElem_mem hkr)
      obtain ⟨o1, o2, o3, o4⟩ := hok'.out _ (List.getElem_mem hkr)
      have c0 := R.c0 k hkr
      have c1' := R.c1 k hkr
      have c2' := R.c2 k hkr
      rw [hvk] at c2'
      have hki : (k : Int) < (n : Int) := by omega
      have hvk' := Lib.hid hvk
      have hvs' := Lib.hid hvs
      clear R hvk hvs
      have hkt := Lib.hid (keep_take (q := fun p => discB gv p.f p.t) hkr)
      generalize hp : (rs[k]).p = p at *
      have hp' := Lib.hid hp
      clear hp
      have h4' : ∀ u ∈ [Value.int .i64 p.f, .int .i64 p.t, .slice B1 n1 d1], u.oneCell' = true := by intro u hu; simp at hu; rcases hu with rfl | rfl | rfl <;> rfl
      have b3 : (m2 + 1) * 40 ≤ 140737488355328 := by omega
      have b4 : m2 + 1 ≤ 140737488355328 := by omega
      have hcells : Hid ([rs[k]].flatMap PR.cells = [.int .i64 p.f, .int .i64 p.t, .slice B1 n1 d1]) := Lib.hid (by simp [PR.cells, hp'.out, hvk'.out])
      cases hq : discB gv p.f p.t
      · have e1 : (inB gv p.f == inB gv p.t) = true := by unfold discB at hq; revert hq; cases inB gv p.f <;> cases inB gv p.t <;> simp
        have hq' := Lib.hid hq
        clear hq
        go_wp2_with fail
        go_quiet ((go_at_call 28; exact Calls.quiet_of_same ((in_ref _ _ _ (by assumption) (by assumption)).mono fun _ _ ⟨q1, q2⟩ => ⟨q1, q2.symm⟩)))
        have hH2 := hH'.out.drewN nq
        have hb2 := Lib.hid ((hH2.alloc (.cells #[.int .i64 p.f, .int .i64 p.t, .slice B1 n1 d1] 43)).pick 1 rfl)
        have lit := (hH2.lit (E := 43) (size := 3) #[.int .i64 p.f, .int .i64 p.t, .slice B1 n1 d1] 1 (of_decide_eq_true rfl) rfl)
        have l2 := Lib.hid ((lit.rs (rhdr b N (.slice (some ⟨g, 0, none⟩) n cap) :: SP :: datas rs :: L)).cons S2)
        clear hH2 lit
        go_wp2_with (at_builtin; refine wpl_append rfl (.tmp 38) (.tmp 46) rfl et49 rfl rfl hb2.out ho2'.out l2.out h4' b3 b4 ?_; intro A3 c3 w3 S3 h5 h6)
        go_roundw
        case rel =>
          have ek : keep (fun p => discB gv p.f p.t) (rs.take (k + 1)) = keep (fun p => discB gv p.f p.t) (rs.take k) ++ [rs[k]] := by rw [hkt.out, hq'.out]; simp
          exact ⟨k + 1, m2 + 1, A3, c3, S3, by go_num, by omega, rfl, by omega, ((h5.pick 1 rfl).drop),
            by rw [ek, List.length_append, ← he2'.out]; rfl, by rw [ek, List.flatMap_append, hcells.out]; exact h6⟩
        case measure => simp [intOf]; omega
      · have e1 : (inB gv p.f == inB gv p.t) = false := by unfold discB at hq; revert hq; cases inB gv p.f <;> cases inB gv p.t <;> simp
        have hq' := Lib.hid hq
        clear hq
        go_wp2_with fail
        go_quiet ((go_at_call 28; exact Calls.quiet_of_same ((in_ref _ _ _ (by assumption) (by assumption)).mono fun _ _ ⟨q1, q2⟩ => ⟨q1, q2.symm⟩)))
        go_wp2_with fail
        go_roundw
        case rel =>
          have ek : keep (fun p => discB gv p.f p.t) (rs.take (k + 1)) = keep (fun p => discB gv p.f p.t) (rs.take k) := by rw [hkt.out, hq'.out]; simp
          exact ⟨k + 1, m2, A2, c2, S2, by go_num, by omega, rfl, by omega, hH'.out.drewN _, by rw [ek]; exact he2'.out, by rw [ek]; exact ho2'.out⟩
        case measure => simp [intOf]; omega
    · have hkn : k = n := by omega
      subst hkn
      have e : rs.take k = rs := List.take_of_length_le (by rw [hlen'.out]; exact Nat.le_refl _)
      have x2 := he2'.out
      have x4 := ho2'.out
      rw [e] at x2 x4
      have hfk := filt_keep_len (fun p => discB gv p.f p.t) rs
      have hw : IntKind.i64.wrap ((k : Int) - (m2 : Int)) = (((rs.filter fun r => discB gv r.p.f r.p.t).length : Nat) : Int) := by
        rw [IntKind.wrap_i64]
        have := hlen'.out
        omega
      have x2' := Lib.hid x2
      have x4' := Lib.hid x4
      clear x2 x4 hfk e
      go_wp2_with fail
      have hf := (hH'.out.pick 1 rfl).setCell 1 (.slice A2 m2 c2)
      go_ret
      have y2 := x2'.out
      have y4 := x4'.out
      subst y2
      exact ⟨A2, c2, S2, rfl, ((hf.pick 2 rfl).drop).pick 0 rfl |> fun _ => (((hf.pick 2 rfl).drop)), y4⟩
end Go.Proofs.Ytggphdbifjoflaa
