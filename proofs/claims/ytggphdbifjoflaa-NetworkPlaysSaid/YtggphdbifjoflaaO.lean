import Derived.Test.YtggphdbifjoflaaM
namespace Go.Proofs.Ytggphdbifjoflaa
open Go.RowKit
variable {W w : World} {L : List Seg} {v : Value} {l : List UInt8} {b : Nat} {N x y : Int} {ps : List Pcl}

def PDelA (W : World) (L : List Seg) (C : Seg) (A : Option Addr) (cap : Nat) (q : Pcl → Bool) (rs : List PR) (e : Ending) (w' : World) : Prop :=
  ∃ SP, e = .returned (.slice A (keep q rs).length cap) ∧ H W w' (C :: SP :: L) ∧ OwnS 30 3 (.slice A (keep q rs).length cap) (keep q rs).length ((keep q rs).flatMap PR.cells) SP

theorem keep_le (q : Pcl → Bool) (rs : List PR) : (keep q rs).length ≤ rs.length := List.length_filter_le _ _

theorem del_any_flow {rs : List PR} {A : Option Addr} {n cap bx : Nat} {gv : Int} {S : Seg} (h : H W w (clo bx gv :: S :: L))
    (hs : OwnS 30 3 (.slice A n cap) n (rs.flatMap PR.cells) S) (hlen : rs.length = n) (hn : n ≤ 4096)
    (hok : ∀ r ∈ rs, okP r.p) (hv : ∀ r ∈ rs, ∃ A m c, r.v = .slice A m c) :
    Calls Try.prog 31 #[.slice A n cap, .func (.func 26) #[] #[.pointer (some ⟨bx, 0, none⟩)]] w (PDelA W L (clo bx gv) A cap (fun p => flowB gv p.f p.t) rs) := by
  rcases hs.2 with ⟨hv0, hn0, rfl⟩ | ⟨g, cap', cur, hv0, rfl, h3, h4, h5, h6⟩
  · obtain ⟨rfl, _, rfl⟩ := by simpa using hv0
    subst hn0
    have : rs = [] := List.eq_nil_of_length_eq_zero hlen
    subst this
    refine (del_nil none 0 _ w).mono ?_
    rintro e w' ⟨rfl, rfl⟩
    exact ⟨[], rfl, h, OwnS.nil _ _⟩
  · obtain ⟨rfl, rfl⟩ := by simpa using hv0
    refine (del_flow h hs hlen hn h3 h5 hok hv).mono ?_
    rintro e w' ⟨new, rfl, h1, h2, h7⟩
    have := keep_le (fun p => flowB gv p.f p.t) rs
    exact ⟨_, rfl, h1, flat_len _, Or.inr ⟨g, cap, new, rfl, rfl, by omega, h4, h2, h7⟩⟩

def PFilter (W : World) (L : List Seg) (C : Seg) (b : Nat) (N : Int) (q : Pcl → Bool) (rs : List PR) (e : Ending) (w' : World) : Prop :=
  ∃ A m c S A' c' SP, e = .returned (.slice A m c) ∧ H W w' (C :: hdr b N (.slice A' (keep q rs).length c') :: SP :: datas rs :: S :: L) ∧
    OwnS 30 3 (.slice A' (keep q rs).length c') (keep q rs).length ((keep q rs).flatMap PR.cells) SP ∧ m = (rs.filter fun r => q r.p).length ∧
    OwnS 30 3 (.slice A m c) m ((rs.filter fun r => q r.p).flatMap PR.cells) S

set_option maxHeartbeats 400000 in
theorem filter_nil (fv : Value) (w : World) : Calls Try.prog 25 #[.pointer none, fv] w fun e w' => e = .returned (.slice none 0 0) ∧ w = w' := by
  go_enter Try.func25, Try.ntmps25
  go_wp2
  go_ret
  exact ⟨rfl, rfl⟩

theorem filt_take {q : Pcl → Bool} {rs : List PR} {k : Nat} (hk : k < rs.length) : (rs.take (k + 1)).filter (fun r => q r.p) = (rs.take k).filter (fun r => q r.p) ++ if q (rs[k]).p then [rs[k]] else [] := by
  rw [List.take_succ_eq_append_getElem hk, List.filter_append]
  cases h : q (rs[k]).p <;> simp [h]

theorem filt_le {q : Pcl → Bool} (rs : List PR) (k : Nat) : ((rs.take k).filter (fun r => q r.p)).length ≤ k :=
  Nat.le_trans (List.length_filter_le _ _) (by rw [List.length_take]; omega)

set_option maxRecDepth 100000 in
set_option maxHeartbeats 3200000 in
theorem filter_flow {rs : List PR} {A : Option Addr} {n cap bx : Nat} {gv : Int} {SP : Seg} (h : H W w (clo bx gv :: SP :: hdr b N (.slice A n cap) :: datas rs :: L))
    (hs : OwnS 30 3 (.slice A n cap) n (rs.flatMap PR.cells) SP) (hlen : rs.length = n) (hn : n ≤ 4096)
    (hok : ∀ r ∈ rs, okP r.p) (hv : ∀ r ∈ rs, ∃ A m c, r.v = .slice A m c) :
    Calls Try.prog 25 #[.pointer (some ⟨b, 0, none⟩), .func (.func 26) #[] #[.pointer (some ⟨bx, 0, none⟩)]] w (PFilter W L (clo bx gv) b N (fun p => flowB gv p.f p.t) rs) := by
  have hq1 : w.cell? ⟨b, 1, none⟩ = some (.slice A n cap) := h.cellAt 2 0 1 rfl rfl rfl
  have hbl := h.ltAt 2 0 rfl rfl
  have h' := Lib.hid h
  have hs' := Lib.hid hs
  have hlen' := Lib.hid hlen
  have hok' := Lib.hid hok
  have hv' := Lib.hid hv
  clear h hs hlen hok hv
  go_enter Try.func25, Try.ntmps25
  go_wp2_with fail
  go_loopw [5, 15] (fun o i wr => ∃ k m : Nat, ∃ A' : Option Addr, ∃ c' : Nat, ∃ S' : Seg, i = .int .i64 k ∧ k ≤ n ∧ o = .slice A' m c' ∧ m ≤ k ∧ H W wr (S' :: clo bx gv :: SP :: hdr b N (.slice A n cap) :: datas rs :: L) ∧
      m = ((rs.take k).filter fun r => flowB gv r.p.f r.p.t).length ∧ OwnS 30 3 (.slice A' m c') m (((rs.take k).filter fun r => flowB gv r.p.f r.p.t).flatMap PR.cells) S') (fun _ i _ => n - (intOf i).toNat)
  case atStart => exact ⟨0, 0, none, 0, [], rfl, Nat.zero_le _, rfl, Nat.le_refl _, h'.out.addNil, by simp, by simpa using OwnS.nil 30 3⟩
  case round =>
    obtain ⟨k, m, A', c', S', rfl, hk, rfl, hmk, hH, hm, hown⟩ := hrel
    have hH' := Lib.hid hH
    have hm' := Lib.hid hm
    have hown' := Lib.hid hown
    clear hH hm hown hq1
    by_cases hlt : k < n
    · have hkr : k < rs.length := by rw [hlen'.out]; exact hlt
      obtain ⟨g, capg, hvs⟩ : ∃ g capg, (Value.slice A n cap) = .slice (some ⟨g, 0, none⟩) n capg := by
        rcases hs'.out.2 with ⟨hv0, hn0, _⟩ | ⟨g, cap', cur, hv0, _⟩
        · omega
        · exact ⟨g, cap', hv0⟩
      obtain ⟨rfl, rfl⟩ := by simpa using hvs
      have R := rows3 hs'.out hH'.out (fun p hp => by simp [hp]) hlen'.out
      obtain ⟨A1, m1, c1', hvk⟩ := hv'.out _ (List.getElem_mem hkr)
      obtain ⟨o1, o2, o3, o4⟩ := hok'.out _ (List.getElem_mem hkr)
      have c0 := R.c0 k hkr
      have c1 := R.c1 k hkr
      have c2 := R.c2 k hkr
      rw [hvk] at c2
      have hki : (k : Int) < (n : Int) := by omega
      have hvk' := Lib.hid hvk
      have hvs' := Lib.hid hvs
      clear R hvk hvs
      have hft := Lib.hid (filt_take (q := fun p => flowB gv p.f p.t) hkr)
      generalize hp : (rs[k]).p = p at *
      have hp' := Lib.hid hp
      clear hp
      have hb0 := Lib.hid ((hH'.out.alloc (.cells #[.int .i64 p.f, .int .i64 p.t, .slice A1 m1 c1'] 30)).pick 2 rfl)
      cases hq : flowB gv p.f p.t
      · have hq' := Lib.hid hq
        clear hq
        go_wp2_with (go_at_call 26; refine (flow1 gv A1 m1 c1' bx hb0.out o1 o2 o3 o4).mono ?_; rw [hq'.out]; rintro e w2 ⟨rfl, h2⟩)
        go_roundw
        case rel =>
          have e : (rs.take (k + 1)).filter (fun r => flowB gv r.p.f r.p.t) = (rs.take k).filter (fun r => flowB gv r.p.f r.p.t) := by rw [hft.out, hq'.out]; simp
          exact ⟨k + 1, m, A', c', S', by go_num, by omega, rfl, by omega, ((h2.swap).drop).swap, by rw [e]; exact hm'.out, by rw [e]; exact hown'.out⟩
        case measure => simp [intOf]; omega
      · have hq' := Lib.hid hq
        clear hq
        have b1 : (m + 1) * 40 ≤ 140737488355328 := by omega
        have b2 : m + 1 ≤ 140737488355328 := by omega
        go_wp2_with (first | (go_at_call 26; refine (flow1 gv A1 m1 c1' bx hb0.out o1 o2 o3 o4).mono ?_; rw [hq'.out]; rintro e w2 ⟨rfl, h2⟩
                              have d0 : w2.cell? ⟨wr.heap.size, 0, none⟩ = some (.int .i64 p.f) := h2.cellAt 1 0 0 rfl rfl rfl
                              have d1 : w2.cell? ⟨wr.heap.size, 1, none⟩ = some (.int .i64 p.t) := h2.cellAt 1 0 1 rfl rfl rfl
                              have d2 : w2.cell? ⟨wr.heap.size, 2, none⟩ = some (.slice A1 m1 c1') := h2.cellAt 1 0 2 rfl rfl rfl
                              have h2' := Lib.hid (((h2.alloc (.cells #[.int .i64 p.f, .int .i64 p.t, .slice A1 m1 c1'] 30)).pick 3 rfl))
                              have h3' := Lib.hid (((h2.lit (E := 30) (size := 3) #[.int .i64 p.f, .int .i64 p.t, .slice A1 m1 c1'] 1 (of_decide_eq_true rfl) rfl).rs (clo bx gv :: [(wr.heap.size, Obj.cells #[.int .i64 p.f, .int .i64 p.t, .slice A1 m1 c1'] 30)] :: SP :: hdr b N (.slice (some ⟨g, 0, none⟩) n cap) :: datas rs :: L)).cons S')
                              have h4' : ∀ u ∈ [Value.int .i64 p.f, .int .i64 p.t, .slice A1 m1 c1'], u.oneCell' = true := by intro u hu; simp at hu; rcases hu with rfl | rfl | rfl <;> rfl) | (at_builtin; refine wpl_append rfl (.tmp 22) (.tmp 24) rfl et47 rfl rfl h2'.out hown'.out h3'.out h4' b1 b2 ?_; intro A2 c2' w3 S2 h5 h6))
        go_roundw
        case rel =>
          have e : (rs.take (k + 1)).filter (fun r => flowB gv r.p.f r.p.t) = (rs.take k).filter (fun r => flowB gv r.p.f r.p.t) ++ [rs[k]] := by rw [hft.out, hq'.out]; simp
          exact ⟨k + 1, m + 1, A2, c2', S2, by go_num, by omega, rfl, by omega, ((((h5.pick 1 rfl).drop).pick 2 rfl).drop).pick 0 rfl, by rw [e, List.length_append, ← hm'.out]; rfl, by
            rw [e, List.flatMap_append]
            have : [rs[k]].flatMap PR.cells = [.int .i64 p.f, .int .i64 p.t, .slice A1 m1 c1'] := by simp [PR.cells, hp'.out, hvk'.out]
            rw [this]; exact h6⟩
        case measure => simp [intOf]; omega
    · have hkn : k = n := by omega
      subst hkn
      have hq2 : wr.cell? ⟨b, 1, none⟩ = some (.slice A k cap) := hH'.out.cellAt 3 0 1 rfl rfl rfl
      have hd0 : H W wr (clo bx gv :: SP :: hdr b N (.slice A k cap) :: datas rs :: S' :: L) := (((hH'.out.pick 4 rfl).pick 4 rfl).pick 4 rfl).pick 4 rfl
      have hd := Lib.hid hd0
      clear hd0
      go_wp2_with (go_at_call 31; refine (del_any_flow hd.out hs'.out hlen'.out hn hok'.out hv'.out).mono ?_; rintro e w2 ⟨SP', rfl, h2, h3⟩; have q1 : w2.cell? ⟨b, 1, none⟩ = some (.slice A k cap) := h2.cellAt 2 0 1 rfl rfl rfl; have q2 : w2.frozen? ⟨b, 1, none⟩ = false := h2.freeAt 2 0 1 rfl rfl)
      have hf := (h2.pick 2 rfl).setCell 1 (.slice A (keep (fun p => flowB gv p.f p.t) rs).length cap)
      go_ret
      have e : rs.take k = rs := List.take_of_length_le (by rw [hlen'.out]; exact Nat.le_refl _)
      have hm2 := hm'.out
      have ho2 := hown'.out
      rw [e] at hm2 ho2
      exact ⟨A', m, c', S', A, cap, SP', rfl, hf.swap, h3, hm2, ho2⟩
end Go.Proofs.Ytggphdbifjoflaa
