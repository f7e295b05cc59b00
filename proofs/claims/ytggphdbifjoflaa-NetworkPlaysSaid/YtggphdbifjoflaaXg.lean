import Derived.Test.YtggphdbifjoflaaXf
namespace Go.Proofs.Ytggphdbifjoflaa
open Go.RowKit
variable {W w : World} {L : List Seg} {v : Value} {l : List UInt8} {b : Nat} {N x y : Int} {ps : List Pcl}

theorem rows3g {E : TypeId} {rs : List PR} {g n cap : Nat} {S : Seg} (h : OwnS E 3 (.slice (some ⟨g, 0, none⟩) n cap) n (rs.flatMap PR.cells) S) (hH : H W w L) (hm : ∀ p ∈ S, p ∈ L.flatten) (hlen : rs.length = n) : Rows3 w g rs := by
  have hrow := h.row hH hm
  constructor <;> intro k hk
  · rw [hrow.cellAt _ (by omega), show k * 3 = k * 3 + 0 from rfl, flat_get rs k hk 0 (by decide)]; rfl
  · rw [hrow.cellAt _ (by omega), flat_get rs k hk 1 (by decide)]; rfl
  · rw [hrow.cellAt _ (by omega), flat_get rs k hk 2 (by decide)]; rfl

theorem keep_take {q : Pcl → Bool} {rs : List PR} {k : Nat} (hk : k < rs.length) : keep q (rs.take (k + 1)) = keep q (rs.take k) ++ if q (rs[k]).p then [] else [rs[k]] := by
  unfold keep
  rw [List.take_succ_eq_append_getElem hk, List.filter_append]
  cases h : q (rs[k]).p <;> simp [h]

def PRSplit (W : World) (L : List Seg) (b : Nat) (N : Int) (q : Pcl → Bool) (rs : List PR) (e : Ending) (w' : World) : Prop :=
  ∃ A c S A' c' SP, e = .returned (.slice A (rs.filter fun r => q r.p).length c) ∧ H W w' (rhdr b N (.slice A' (keep q rs).length c') :: SP :: S :: datas rs :: L) ∧
    OwnS 43 3 (.slice A' (keep q rs).length c') (keep q rs).length ((keep q rs).flatMap PR.cells) SP ∧
    OwnS 43 3 (.slice A (rs.filter fun r => q r.p).length c) (rs.filter fun r => q r.p).length ((rs.filter fun r => q r.p).flatMap PR.cells) S

set_option maxRecDepth 100000 in
set_option maxHeartbeats 3200000 in
theorem rflow_in {rs : List PR} {A : Option Addr} {n cap : Nat} {gv : Int} {SP : Seg} (h : H W w (rhdr b N (.slice A n cap) :: SP :: datas rs :: L))
    (hs : OwnS 43 3 (.slice A n cap) n (rs.flatMap PR.cells) SP) (hlen : rs.length = n) (hn : n ≤ 4096)
    (hok : ∀ r ∈ rs, okP r.p) (hv : ∀ r ∈ rs, ∃ A m c, r.v = .slice A m c) :
    Calls Try.prog 21 #[.pointer (some ⟨b, 0, none⟩), .int .i64 gv] w (PRSplit W L b N (fun p => flowB gv p.f p.t) rs) := by
  have hq1 : w.cell? ⟨b, 1, none⟩ = some (.slice A n cap) := h.cellAt 0 0 1 rfl rfl rfl
  have h' := Lib.hid h
  have hs' := Lib.hid hs
  have hlen' := Lib.hid hlen
  have hok' := Lib.hid hok
  have hv' := Lib.hid hv
  clear h hs hlen hok hv
  go_enter Try.func21, Try.ntmps21
  go_wp2_with fail
  go_loopw [5, 6, 7] (fun o r i wr => ∃ k m1 m2 : Nat, ∃ A1 : Option Addr, ∃ c1 : Nat, ∃ S1 : Seg, ∃ A2 : Option Addr, ∃ c2 : Nat, ∃ S2 : Seg, i = .int .i64 k ∧ k ≤ n ∧ o = .slice A1 m1 c1 ∧ m1 ≤ k ∧ r = .slice A2 m2 c2 ∧ m2 ≤ k ∧
      H W wr (S1 :: S2 :: rhdr b N (.slice A n cap) :: SP :: datas rs :: L) ∧
      m1 = ((rs.take k).filter fun r => flowB gv r.p.f r.p.t).length ∧ OwnS 43 3 (.slice A1 m1 c1) m1 (((rs.take k).filter fun r => flowB gv r.p.f r.p.t).flatMap PR.cells) S1 ∧
      m2 = (keep (fun p => flowB gv p.f p.t) (rs.take k)).length ∧ OwnS 43 3 (.slice A2 m2 c2) m2 ((keep (fun p => flowB gv p.f p.t) (rs.take k)).flatMap PR.cells) S2) (fun _ _ i _ => n - (intOf i).toNat)
  case atStart => exact ⟨0, 0, 0, none, 0, [], none, 0, [], rfl, Nat.zero_le _, rfl, Nat.le_refl _, rfl, Nat.le_refl _, h'.out.addNil.addNil, by simp, by simpa using OwnS.nil 43 3, by simp [keep], by simpa [keep] using OwnS.nil 43 3⟩
  case round =>
    obtain ⟨k, m1, m2, A1, c1, S1, A2, c2, S2, rfl, hk, rfl, hm1, rfl, hm2, hH, he1, ho1, he2, ho2⟩ := hrel
    have hH' := Lib.hid hH
    have he1' := Lib.hid he1
    have ho1' := Lib.hid ho1
    have he2' := Lib.hid he2
    have ho2' := Lib.hid ho2
    clear hq1
    have hq2 : wr.cell? ⟨b, 1, none⟩ = some (.slice A n cap) := hH.cellAt 2 0 1 rfl rfl rfl
    have hq3 : wr.frozen? ⟨b, 1, none⟩ = false := hH.freeAt 2 0 1 rfl rfl
    clear hH he1 ho1 he2 ho2
    by_cases hlt : k < n
    · have hkr : k < rs.length := by rw [hlen'.out]; exact hlt
      obtain ⟨g, capg, hvs⟩ : ∃ g capg, (Value.slice A n cap) = .slice (some ⟨g, 0, none⟩) n capg := by
        rcases hs'.out.2 with ⟨hv0, hn0, _⟩ | ⟨g, cap', cur, hv0, _⟩
        · omega
        · exact ⟨g, cap', hv0⟩
      obtain ⟨rfl, rfl⟩ := by simpa using hvs
      have R := rows3g hs'.out hH'.out (fun p hp => by simp [hp]) hlen'.out
      obtain ⟨B1, n1, d1, hvk⟩ := hv'.out _ (List.getElem_mem hkr)
      obtain ⟨o1, o2, o3, o4⟩ := hok'.out _ (List.getElem_mem hkr)
      have c0 := R.c0 k hkr
      have c1' := R.c1 k hkr
      have c2' := R.c2 k hkr
      rw [hvk] at c2'
      have hki : (k : Int) < (n : Int) := by omega
      have hvk' := Lib.hid hvk
      have hvs' := Lib.hid hvs
      clear R hvk hvs
      have hft := Lib.hid (filt_take (q := fun p => flowB gv p.f p.t) hkr)
      have hkt := Lib.hid (keep_take (q := fun p => flowB gv p.f p.t) hkr)
      generalize hp : (rs[k]).p = p at *
      have hp' := Lib.hid hp
      clear hp
      have hH2 := hH'.out
      have hb1 := Lib.hid ((hH2.alloc (.cells #[.int .i64 p.f, .int .i64 p.t, .slice B1 n1 d1] 43)).pick 1 rfl)
      have hb2 := Lib.hid ((hH2.alloc (.cells #[.int .i64 p.f, .int .i64 p.t, .slice B1 n1 d1] 43)).pick 2 rfl)
      have lit := (hH2.lit (E := 43) (size := 3) #[.int .i64 p.f, .int .i64 p.t, .slice B1 n1 d1] 1 (of_decide_eq_true rfl) rfl)
      have l1 := Lib.hid ((lit.rs (S2 :: rhdr b N (.slice (some ⟨g, 0, none⟩) n cap) :: SP :: datas rs :: L)).cons S1)
      have l2 := Lib.hid ((lit.rs (S1 :: rhdr b N (.slice (some ⟨g, 0, none⟩) n cap) :: SP :: datas rs :: L)).cons S2)
      have h4' : ∀ u ∈ [Value.int .i64 p.f, .int .i64 p.t, .slice B1 n1 d1], u.oneCell' = true := by intro u hu; simp at hu; rcases hu with rfl | rfl | rfl <;> rfl
      clear hH2 lit
      have b1 : (m1 + 1) * 40 ≤ 140737488355328 := by omega
      have b2 : m1 + 1 ≤ 140737488355328 := by omega
      have b3 : (m2 + 1) * 40 ≤ 140737488355328 := by omega
      have b4 : m2 + 1 ≤ 140737488355328 := by omega
      have hcells : Hid ([rs[k]].flatMap PR.cells = [.int .i64 p.f, .int .i64 p.t, .slice B1 n1 d1]) := Lib.hid (by simp [PR.cells, hp'.out, hvk'.out])
      cases e1 : inB gv p.f
      · have e1' := Lib.hid e1
        have hq' := Lib.hid (show flowB gv p.f p.t = false by simp [flowB, e1])
        clear e1
        go_wp2_with (first
          | (go_at_call 28; refine (in_ref _ _ _ (by assumption) (by assumption)).mono ?_; rintro e w2 ⟨rfl, rfl⟩; rw [e1'.out])
          | (at_builtin; refine wpl_append rfl (.tmp 49) (.tmp 57) rfl et49 rfl rfl hb2.out ho2'.out l2.out h4' b3 b4 ?_; intro A3 c3 w3 S3 h5 h6))
        go_roundw
        case rel =>
          have ef : (rs.take (k + 1)).filter (fun r => flowB gv r.p.f r.p.t) = (rs.take k).filter (fun r => flowB gv r.p.f r.p.t) := by rw [hft.out, hq'.out]; simp
          have ek : keep (fun p => flowB gv p.f p.t) (rs.take (k + 1)) = keep (fun p => flowB gv p.f p.t) (rs.take k) ++ [rs[k]] := by rw [hkt.out, hq'.out]; simp
          exact ⟨k + 1, m1, m2 + 1, A1, c1, S1, A3, c3, S3, by go_num, by omega, rfl, by omega, rfl, by omega, ((h5.pick 1 rfl).drop).swap, by rw [ef]; exact he1'.out, by rw [ef]; exact ho1'.out,
            by rw [ek, List.length_append, ← he2'.out]; rfl, by rw [ek, List.flatMap_append, hcells.out]; exact h6⟩
        case measure => simp [intOf]; omega
      · cases e2 : inB gv p.t
        · have e1' := Lib.hid e1
          have e2' := Lib.hid e2
          have hq' := Lib.hid (show flowB gv p.f p.t = false by simp [flowB, e2])
          clear e1 e2
          go_wp2_with (first
            | (go_at_call 28; refine (in_ref _ _ _ (by assumption) (by assumption)).mono ?_; rintro e w2 ⟨rfl, rfl⟩; first | rw [e1'.out] | rw [e2'.out])
            | (at_builtin; refine wpl_append rfl (.tmp 49) (.tmp 57) rfl et49 rfl rfl hb2.out ho2'.out l2.out h4' b3 b4 ?_; intro A3 c3 w3 S3 h5 h6))
          go_roundw
          case rel =>
            have ef : (rs.take (k + 1)).filter (fun r => flowB gv r.p.f r.p.t) = (rs.take k).filter (fun r => flowB gv r.p.f r.p.t) := by rw [hft.out, hq'.out]; simp
            have ek : keep (fun p => flowB gv p.f p.t) (rs.take (k + 1)) = keep (fun p => flowB gv p.f p.t) (rs.take k) ++ [rs[k]] := by rw [hkt.out, hq'.out]; simp
            exact ⟨k + 1, m1, m2 + 1, A1, c1, S1, A3, c3, S3, by go_num, by omega, rfl, by omega, rfl, by omega, ((h5.pick 1 rfl).drop).swap, by rw [ef]; exact he1'.out, by rw [ef]; exact ho1'.out,
              by rw [ek, List.length_append, ← he2'.out]; rfl, by rw [ek, List.flatMap_append, hcells.out]; exact h6⟩
          case measure => simp [intOf]; omega
        · have e1' := Lib.hid e1
          have e2' := Lib.hid e2
          have hq' := Lib.hid (show flowB gv p.f p.t = true by simp [flowB, e1, e2])
          clear e1 e2
          go_wp2_with (first
            | (go_at_call 28; refine (in_ref _ _ _ (by assumption) (by assumption)).mono ?_; rintro e w2 ⟨rfl, rfl⟩; first | rw [e1'.out] | rw [e2'.out])
            | (at_builtin; refine wpl_append rfl (.tmp 39) (.tmp 47) rfl et49 rfl rfl hb1.out ho1'.out l1.out h4' b1 b2 ?_; intro A3 c3 w3 S3 h5 h6))
          go_roundw
          case rel =>
            have ef : (rs.take (k + 1)).filter (fun r => flowB gv r.p.f r.p.t) = (rs.take k).filter (fun r => flowB gv r.p.f r.p.t) ++ [rs[k]] := by rw [hft.out, hq'.out]; simp
            have ek : keep (fun p => flowB gv p.f p.t) (rs.take (k + 1)) = keep (fun p => flowB gv p.f p.t) (rs.take k) := by rw [hkt.out, hq'.out]; simp
            exact ⟨k + 1, m1 + 1, m2, A3, c3, S3, A2, c2, S2, by go_num, by omega, rfl, by omega, rfl, by omega, ((h5.pick 1 rfl).drop), by rw [ef, List.length_append, ← he1'.out]; rfl, by rw [ef, List.flatMap_append, hcells.out]; exact h6,
              by rw [ek]; exact he2'.out, by rw [ek]; exact ho2'.out⟩
          case measure => simp [intOf]; omega
    · have hkn : k = n := by omega
      subst hkn
      go_wp2_with fail
      have hf := (hH'.out.pick 2 rfl).setCell 1 (.slice A2 m2 c2)
      go_ret
      have e : rs.take k = rs := List.take_of_length_le (by rw [hlen'.out]; exact Nat.le_refl _)
      have x1 := he1'.out
      have x2 := he2'.out
      have x3 := ho1'.out
      have x4 := ho2'.out
      rw [e] at x1 x2 x3 x4
      subst x1 x2
      exact ⟨A1, c1, S1, A2, c2, S2, rfl, ((((hf.pick 3 rfl).drop).pick 2 rfl).pick 1 rfl), x4, x3⟩
end Go.Proofs.Ytggphdbifjoflaa
