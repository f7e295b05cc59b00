import Derived.Test.YtggphdbifjoflaaO
namespace Go.Proofs.Ytggphdbifjoflaa
open Go.RowKit
variable {W w : World} {L : List Seg} {v : Value} {l : List UInt8} {b : Nat} {N x y : Int} {ps : List Pcl}

set_option maxHeartbeats 1600000 in
theorem idx_disc {rs : List PR} {g n cap bx : Nat} {gv : Int} {S : Seg} (h : H W w (clo bx gv :: S :: L)) (hs : OwnS 30 3 (.slice (some ⟨g, 0, none⟩) n cap) n (rs.flatMap PR.cells) S) (hlen : rs.length = n) (hn : n ≤ 4096)
    (hok : ∀ r ∈ rs, okP r.p) (hv : ∀ r ∈ rs, ∃ A m c, r.v = .slice A m c) :
    Calls Try.prog 32 #[.slice (some ⟨g, 0, none⟩) n cap, .func (.func 29) #[] #[.pointer (some ⟨bx, 0, none⟩)]] w (PIdx W (clo bx gv :: S :: L) (fun p => discB gv p.f p.t) rs) := by
  have h' := Lib.hid h
  have hs' := Lib.hid hs
  have hlen' := Lib.hid hlen
  have hok' := Lib.hid hok
  have hv' := Lib.hid hv
  clear h hs hlen hok hv
  go_enter Try.func32, Try.ntmps32
  go_wp2
  go_loopw [8] (fun i wr => ∃ k : Nat, k ≤ n ∧ i = .int .i64 k ∧ H W wr (clo bx gv :: S :: L) ∧ ∀ j (hj : j < rs.length), j < k → discB gv (rs[j]).p.f (rs[j]).p.t = false) (fun i _ => n - (intOf i).toNat)
  case atStart => exact ⟨0, Nat.zero_le _, rfl, h'.out, fun j _ hj => absurd hj (by omega)⟩
  case round =>
    obtain ⟨k, hk, rfl, hH, hall⟩ := hrel
    have hH' := Lib.hid hH
    have hall' := Lib.hid hall
    clear hH hall
    by_cases hlt : k < n
    · have hkr : k < rs.length := by rw [hlen'.out]; exact hlt
      have R := rows3 hs'.out hH'.out (fun p hp => by simp [hp]) hlen'.out
      obtain ⟨A, m, c, hvk⟩ := hv'.out _ (List.getElem_mem hkr)
      have o := hok'.out _ (List.getElem_mem hkr)
      have c0 := R.c0 k hkr
      have c1 := R.c1 k hkr
      have c2 := R.c2 k hkr
      rw [hvk] at c2
      obtain ⟨o1, o2, o3, o4⟩ := o
      have hki : (k : Int) < (n : Int) := by omega
      clear R hvk
      generalize hp : (rs[k]).p = p at *
      have hp' := Lib.hid hp
      clear hp
      cases hq : discB gv p.f p.t
      · have hq' := Lib.hid hq
        clear hq
        go_wp2_with (go_at_call 29; refine (disc1 gv A m c bx hH'.out o1 o2 o3 o4).mono ?_; rw [hq'.out]; rintro e w1 ⟨rfl, h1⟩)
        go_roundw
        case rel => exact ⟨k + 1, by omega, by go_num, h1, fun j hj hjk => by
          rcases Nat.lt_or_ge j k with h2 | h2
          · exact hall'.out j hj h2
          · have : j = k := by omega
            subst this
            rw [hp'.out]; exact hq'.out⟩
        case measure => simp [intOf]; omega
      · have hq' := Lib.hid hq
        clear hq
        go_wp2_with (go_at_call 29; refine (disc1 gv A m c bx hH'.out o1 o2 o3 o4).mono ?_; rw [hq'.out]; rintro e w1 ⟨rfl, h1⟩)
        go_ret
        exact ⟨h1, Or.inl ⟨k, hkr, rfl, by rw [hp'.out]; exact hq'.out, fun j hj => hall'.out j (by omega) hj⟩⟩
    · have hkn : k = n := by omega
      subst hkn
      go_wp2
      go_ret
      exact ⟨hH'.out, Or.inr ⟨rfl, fun r hr => by
        obtain ⟨j, hj, rfl⟩ := List.getElem_of_mem hr
        exact hall'.out j hj (by rw [← hlen'.out]; exact hj)⟩⟩

set_option maxRecDepth 100000 in
set_option maxHeartbeats 3200000 in
theorem del_disc {rs : List PR} {g n cap bx : Nat} {gv : Int} {cur : Array Value} (h : H W w (clo bx gv :: [(g, .cells cur 30 (0, 0))] :: L))
    (hs : OwnS 30 3 (.slice (some ⟨g, 0, none⟩) n cap) n (rs.flatMap PR.cells) [(g, .cells cur 30 (0, 0))]) (hlen : rs.length = n) (hn : n ≤ 4096) (hnc : n ≤ cap) (hsz : cur.size = cap * 3)
    (hok : ∀ r ∈ rs, okP r.p) (hv : ∀ r ∈ rs, ∃ A m c, r.v = .slice A m c) :
    Calls Try.prog 31 #[.slice (some ⟨g, 0, none⟩) n cap, .func (.func 29) #[] #[.pointer (some ⟨bx, 0, none⟩)]] w (PDel W L (clo bx gv) g cap (fun p => discB gv p.f p.t) rs) := by
  have htk : cur.toList.take (n * 3) = rs.flatMap PR.cells := by
    rcases hs.2 with ⟨hv, _⟩ | ⟨g', cap', cur', hv, hS, _, _, _, ht⟩
    · simp at hv
    · simp at hS; obtain ⟨_, rfl⟩ := hS; exact ht
  have h' := Lib.hid h
  have hs' := Lib.hid hs
  have hlen' := Lib.hid hlen
  have hok' := Lib.hid hok
  have hv' := Lib.hid hv
  have htk' := Lib.hid htk
  have hsz' := Lib.hid hsz
  obtain ⟨i30', hi30, hz30⟩ := z30
  have hi30' := Lib.hid hi30
  have hz30' := Lib.hid hz30
  clear h hs hlen hok hv htk hsz hi30 hz30
  go_enter Try.func31, Try.ntmps31
  go_wp2_with (go_at_call 32; refine (idx_disc h'.out hs'.out hlen'.out hn hok'.out hv'.out).mono ?_; rintro e w1 ⟨h1, ⟨k, hk, rfl, hq, hfst⟩ | ⟨rfl, hall⟩⟩; have hkn : k < n := hlen'.out ▸ hk)
  · have inv0 := Lib.hid (DelInv.start (q := fun p => discB gv p.f p.t) hlen'.out htk'.out hk hq hfst)
    have h1' := Lib.hid h1
    clear h1 hq hfst hk
    go_loopw [5, 6] (fun i j wr => ∃ a c : Nat, ∃ cur' : Array Value, i = .int .i64 a ∧ j = .int .i64 c ∧ a < n ∧ c ≤ n ∧ H W wr (clo bx gv :: [(g, .cells cur' 30 (0, 0))] :: L) ∧ DelInv (fun p => discB gv p.f p.t) rs cur cur' a c) (fun _ j _ => n - (intOf j).toNat)
    case atStart => exact ⟨k, k + 1, cur, rfl, by go_num, hkn, by omega, h1'.out, inv0.out⟩
    case round =>
      obtain ⟨a, c, cur', rfl, rfl, han, hcn, hH, inv⟩ := hrel
      have hH' := Lib.hid hH
      have inv' := Lib.hid inv
      have hac := inv.lt
      clear hH inv
      by_cases hlt : c < n
      · have hcr : c < rs.length := by rw [hlen'.out]; exact hlt
        have hcz : cur'.size = cap * 3 := inv'.out.size.trans hsz'.out
        have cellc : ∀ j, j < 3 → cur'[c * 3 + j]? = (rs[c].cells)[j]? := by
          intro j hj
          rw [inv'.out.drop _ (by omega), ← flat_get rs c hcr j hj, ← htk'.out, List.getElem?_take, if_pos (by omega), Array.getElem?_toList]
        obtain ⟨A, m, cc, hvk⟩ := hv'.out _ (List.getElem_mem hcr)
        obtain ⟨o1, o2, o3, o4⟩ := hok'.out _ (List.getElem_mem hcr)
        have c0 : wr.cell? ⟨g, c * 3, none⟩ = some (.int .i64 (rs[c]).p.f) := hH'.out.cellAt 1 0 _ rfl rfl (cellc 0 (by decide))
        have c1 : wr.cell? ⟨g, c * 3 + 1, none⟩ = some (.int .i64 (rs[c]).p.t) := hH'.out.cellAt 1 0 _ rfl rfl (cellc 1 (by decide))
        have c2 : wr.cell? ⟨g, c * 3 + 2, none⟩ = some (rs[c]).v := hH'.out.cellAt 1 0 _ rfl rfl (cellc 2 (by decide))
        rw [hvk] at c2
        have hgl := hH'.out.ltAt 1 0 rfl rfl
        have hci : (c : Int) < (n : Int) := by omega
        have hai : (a : Int) < (n : Int) := by omega
        have hcz' := Lib.hid hcz
        have hvk' := Lib.hid hvk
        clear cellc hcz hvk
        generalize hp : (rs[c]).p = p at *
        have hp' := Lib.hid hp
        clear hp
        have hb0 := Lib.hid ((hH'.out.alloc (.cells #[.int .i64 p.f, .int .i64 p.t, .slice A m cc] 30)).swap)
        cases hq : discB gv p.f p.t
        · have hq' := Lib.hid hq
          clear hq
          go_wp2_with (go_at_call 29; refine (disc1 gv A m cc bx hb0.out o1 o2 o3 o4).mono ?_; rw [hq'.out]; rintro e w2 ⟨rfl, h2⟩
                       have d0 : w2.cell? ⟨wr.heap.size, 0, none⟩ = some (.int .i64 p.f) := h2.cellAt 1 0 0 rfl rfl rfl
                       have d1 : w2.cell? ⟨wr.heap.size, 1, none⟩ = some (.int .i64 p.t) := h2.cellAt 1 0 1 rfl rfl rfl
                       have d2 : w2.cell? ⟨wr.heap.size, 2, none⟩ = some (.slice A m cc) := h2.cellAt 1 0 2 rfl rfl rfl
                       obtain ⟨v0, e0⟩ : ∃ v0, w2.cell? ⟨g, a * 3, none⟩ = some v0 := ⟨_, h2.cellAt 2 0 (a * 3) rfl rfl (Array.getElem?_eq_getElem (by rw [hcz'.out]; omega))⟩
                       obtain ⟨v1, e1⟩ : ∃ v1, w2.cell? ⟨g, a * 3 + 1, none⟩ = some v1 := ⟨_, h2.cellAt 2 0 (a * 3 + 1) rfl rfl (Array.getElem?_eq_getElem (by rw [hcz'.out]; omega))⟩
                       obtain ⟨v2, e2⟩ : ∃ v2, w2.cell? ⟨g, a * 3 + 2, none⟩ = some v2 := ⟨_, h2.cellAt 2 0 (a * 3 + 2) rfl rfl (Array.getElem?_eq_getElem (by rw [hcz'.out]; omega))⟩
                       have f0 := fun k => h2.freeAt 2 0 k rfl rfl)
          go_roundw
          case rel =>
            have h3 := (((h2.pick 2 rfl).setCell (a * 3) (.int .i64 p.f)).setCell (a * 3 + 1) (.int .i64 p.t)).setCell (a * 3 + 2) (.slice A m cc)
            have hm := inv'.out.move hcr (by rw [hlen'.out, hsz'.out]; omega) (by rw [hp'.out]; exact hq'.out)
            rw [hp'.out, hvk'.out] at hm
            (repeat apply Exists.intro)
            exact ⟨⟨a + 1, c + 1, _, by go_num, by go_num, by omega, by omega, ((h3.pick 2 rfl).drop).swap, hm⟩, rfl⟩
          case measure => simp [intOf]; omega
        · have hq' := Lib.hid hq
          clear hq
          go_wp2_with (go_at_call 29; refine (disc1 gv A m cc bx hb0.out o1 o2 o3 o4).mono ?_; rw [hq'.out]; rintro e w2 ⟨rfl, h2⟩)
          go_roundw
          case rel =>
            (repeat apply Exists.intro)
            exact ⟨⟨a, c + 1, cur', rfl, by go_num, han, by omega, (h2.swap).drop, inv'.out.skip hcr (by rw [hp'.out]; exact hq'.out)⟩, rfl⟩
          case measure => simp [intOf]; omega
      · have hcn' : c = n := by omega
        subst hcn'
        have hfit := Lib.hid (show a * 3 + (Builtin.zeroCells (Value.agg #[.int .i64 0, .int .i64 0, .slice none 0 0]).cells (c - a)).size ≤ cur'.size by
          rw [zcells_len, inv'.out.size, hsz'.out]; omega)
        obtain ⟨w3, hclr, h7⟩ := H.clear (c := cap - a) (off := a * 3) Try.underlying47 hi30'.out hz30'.out hH'.out.swap (show 0 < c - a by omega) hfit.out (zcells_one _) 0
        have h7' := Lib.hid h7
        clear h7
        have hai : (a : Int) ≤ (c : Int) := by omega
        have hca : ¬ cap = a := by omega
        go_wp2
        go_ret
        have hlen2 : (keep (fun p => discB gv p.f p.t) rs).length = a := by
          have := inv'.out.len; rw [List.take_of_length_le (by rw [hlen'.out]; exact Nat.le_refl _)] at this; exact this
        refine ⟨_, by rw [hlen2]; rfl, h7'.out.swap, ?_, ?_⟩
        · show (spl cur'.toList (a * 3) _).length = cap * 3
          rw [spl_length (by have := hfit.out; simpa using this), Array.length_toList, inv'.out.size, hsz'.out]
        · rw [hlen2]
          show (spl cur'.toList (a * 3) _).take (a * 3) = _
          rw [take_spl (by rw [Array.length_toList, inv'.out.size, hsz'.out]; omega), inv'.out.take, List.take_of_length_le (by rw [hlen'.out]; exact Nat.le_refl _)]
  · have hall' := Lib.hid hall
    have h1' := Lib.hid h1
    clear h1 hall
    go_ret
    have e : keep (fun p => discB gv p.f p.t) rs = rs := keep_all hall'.out
    refine ⟨cur, ?_, h1'.out, hsz'.out, ?_⟩
    · rw [e, hlen'.out]; rfl
    · rw [e, hlen'.out]; exact htk'.out

theorem del_any_disc {rs : List PR} {A : Option Addr} {n cap bx : Nat} {gv : Int} {S : Seg} (h : H W w (clo bx gv :: S :: L))
    (hs : OwnS 30 3 (.slice A n cap) n (rs.flatMap PR.cells) S) (hlen : rs.length = n) (hn : n ≤ 4096)
    (hok : ∀ r ∈ rs, okP r.p) (hv : ∀ r ∈ rs, ∃ A m c, r.v = .slice A m c) :
    Calls Try.prog 31 #[.slice A n cap, .func (.func 29) #[] #[.pointer (some ⟨bx, 0, none⟩)]] w (PDelA W L (clo bx gv) A cap (fun p => discB gv p.f p.t) rs) := by
  rcases hs.2 with ⟨hv0, hn0, rfl⟩ | ⟨g, cap', cur, hv0, rfl, h3, h4, h5, h6⟩
  · obtain ⟨rfl, _, rfl⟩ := by simpa using hv0
    subst hn0
    have : rs = [] := List.eq_nil_of_length_eq_zero hlen
    subst this
    refine (del_nil none 0 _ w).mono ?_
    rintro e w' ⟨rfl, rfl⟩
    exact ⟨[], rfl, h, OwnS.nil _ _⟩
  · obtain ⟨rfl, rfl⟩ := by simpa using hv0
    refine (del_disc h hs hlen hn h3 h5 hok hv).mono ?_
    rintro e w' ⟨new, rfl, h1, h2, h7⟩
    have := keep_le (fun p => discB gv p.f p.t) rs
    exact ⟨_, rfl, h1, flat_len _, Or.inr ⟨g, cap, new, rfl, rfl, by omega, h4, h2, h7⟩⟩

set_option maxRecDepth 100000 in
set_option maxHeartbeats 3200000 in
theorem filter_disc {rs : List PR} {A : Option Addr} {n cap bx : Nat} {gv : Int} {SP : Seg} (h : H W w (clo bx gv :: SP :: hdr b N (.slice A n cap) :: datas rs :: L))
    (hs : OwnS 30 3 (.slice A n cap) n (rs.flatMap PR.cells) SP) (hlen : rs.length = n) (hn : n ≤ 4096)
    (hok : ∀ r ∈ rs, okP r.p) (hv : ∀ r ∈ rs, ∃ A m c, r.v = .slice A m c) :
    Calls Try.prog 25 #[.pointer (some ⟨b, 0, none⟩), .func (.func 29) #[] #[.pointer (some ⟨bx, 0, none⟩)]] w (PFilter W L (clo bx gv) b N (fun p => discB gv p.f p.t) rs) := by
  have hq1 : w.cell? ⟨b, 1, none⟩ = some (.slice A n cap) := h.cellAt 2 0 1 rfl rfl rfl
  have hbl := h.ltAt 2 0 rfl rfl
  have h' := Lib.hid h
  have hs' := Lib.hid hs
  have hlen' := Lib.hid hlen
  have hok' := Lib.hid hok
  have hv' := Lib.hid hv
  clear h hs hlen hok hv
  go_enter Try.func25, Try.ntmps25
  go_wp2_with fail
  go_loopw [5, 15] (fun o i wr => ∃ k m : Nat, ∃ A' : Option Addr, ∃ c' : Nat, ∃ S' : Seg, i = .int .i64 k ∧ k ≤ n ∧ o = .slice A' m c' ∧ m ≤ k ∧ H W wr (S' :: clo bx gv :: SP :: hdr b N (.slice A n cap) :: datas rs :: L) ∧
      m = ((rs.take k).filter fun r => discB gv r.p.f r.p.t).length ∧ OwnS 30 3 (.slice A' m c') m (((rs.take k).filter fun r => discB gv r.p.f r.p.t).flatMap PR.cells) S') (fun _ i _ => n - (intOf i).toNat)
  case atStart => exact ⟨0, 0, none, 0, [], rfl, Nat.zero_le _, rfl, Nat.le_refl _, h'.out.addNil, by simp, by simpa using OwnS.nil 30 3⟩
  case round =>
    obtain ⟨k, m, A', c', S', rfl, hk, rfl, hmk, hH, hm, hown⟩ := hrel
    have hH' := Lib.hid hH
    have hm' := Lib.hid hm
    have hown' := Lib.hid hown
    clear hH hm hown hq1
    by_cases hlt : k < n
    · have hkr : k < rs.length := by rw [hlen'.out]; exact hlt
      obtain ⟨g, capg, hvs⟩ : ∃ g capg, (Value.slice A n cap) = .slice (some ⟨g, 0, none⟩) n capg := by
        rcases hs'.out.2 with ⟨hv0, hn0, _⟩ | ⟨g, cap', cur, hv0, _⟩
        · omega
        · exact ⟨g, cap', hv0⟩
      obtain ⟨rfl, rfl⟩ := by simpa using hvs
      have R := rows3 hs'.out hH'.out (fun p hp => by simp [hp]) hlen'.out
      obtain ⟨A1, m1, c1', hvk⟩ := hv'.out _ (List.getElem_mem hkr)
      obtain ⟨o1, o2, o3, o4⟩ := hok'.out _ (List.getElem_mem hkr)
      have c0 := R.c0 k hkr
      have c1 := R.c1 k hkr
      have c2 := R.c2 k hkr
      rw [hvk] at c2
      have hki : (k : Int) < (n : Int) := by omega
      have hvk' := Lib.hid hvk
      have hvs' := Lib.hid hvs
      clear R hvk hvs
      have hft := Lib.hid (filt_take (q := fun p => discB gv p.f p.t) hkr)
      generalize hp : (rs[k]).p = p at *
      have hp' := Lib.hid hp
      clear hp
      have hb0 := Lib.hid ((hH'.out.alloc (.cells #[.int .i64 p.f, .int .i64 p.t, .slice A1 m1 c1'] 30)).pick 2 rfl)
      cases hq : discB gv p.f p.t
      · have hq' := Lib.hid hq
        clear hq
        go_wp2_with (go_at_call 29; refine (disc1 gv A1 m1 c1' bx hb0.out o1 o2 o3 o4).mono ?_; rw [hq'.out]; rintro e w2 ⟨rfl, h2⟩)
        go_roundw
        case rel =>
          have e : (rs.take (k + 1)).filter (fun r => discB gv r.p.f r.p.t) = (rs.take k).filter (fun r => discB gv r.p.f r.p.t) := by rw [hft.out, hq'.out]; simp
          exact ⟨k + 1, m, A', c', S', by go_num, by omega, rfl, by omega, ((h2.swap).drop).swap, by rw [e]; exact hm'.out, by rw [e]; exact hown'.out⟩
        case measure => simp [intOf]; omega
      · have hq' := Lib.hid hq
        clear hq
        have b1 : (m + 1) * 40 ≤ 140737488355328 := by omega
        have b2 : m + 1 ≤ 140737488355328 := by omega
        go_wp2_with (first | (go_at_call 29; refine (disc1 gv A1 m1 c1' bx hb0.out o1 o2 o3 o4).mono ?_; rw [hq'.out]; rintro e w2 ⟨rfl, h2⟩
                              have d0 : w2.cell? ⟨wr.heap.size, 0, none⟩ = some (.int .i64 p.f) := h2.cellAt 1 0 0 rfl rfl rfl
                              have d1 : w2.cell? ⟨wr.heap.size, 1, none⟩ = some (.int .i64 p.t) := h2.cellAt 1 0 1 rfl rfl rfl
                              have d2 : w2.cell? ⟨wr.heap.size, 2, none⟩ = some (.slice A1 m1 c1') := h2.cellAt 1 0 2 rfl rfl rfl
                              have h2' := Lib.hid (((h2.alloc (.cells #[.int .i64 p.f, .int .i64 p.t, .slice A1 m1 c1'] 30)).pick 3 rfl))
                              have h3' := Lib.hid (((h2.lit (E := 30) (size := 3) #[.int .i64 p.f, .int .i64 p.t, .slice A1 m1 c1'] 1 (of_decide_eq_true rfl) rfl).rs (clo bx gv :: [(wr.heap.size, Obj.cells #[.int .i64 p.f, .int .i64 p.t, .slice A1 m1 c1'] 30)] :: SP :: hdr b N (.slice (some ⟨g, 0, none⟩) n cap) :: datas rs :: L)).cons S')
                              have h4' : ∀ u ∈ [Value.int .i64 p.f, .int .i64 p.t, .slice A1 m1 c1'], u.oneCell' = true := by intro u hu; simp at hu; rcases hu with rfl | rfl | rfl <;> rfl) | (at_builtin; refine wpl_append rfl (.tmp 22) (.tmp 24) rfl et47 rfl rfl h2'.out hown'.out h3'.out h4' b1 b2 ?_; intro A2 c2' w3 S2 h5 h6))
        go_roundw
        case rel =>
          have e : (rs.take (k + 1)).filter (fun r => discB gv r.p.f r.p.t) = (rs.take k).filter (fun r => discB gv r.p.f r.p.t) ++ [rs[k]] := by rw [hft.out, hq'.out]; simp
          exact ⟨k + 1, m + 1, A2, c2', S2, by go_num, by omega, rfl, by omega, ((((h5.pick 1 rfl).drop).pick 2 rfl).drop).pick 0 rfl, by rw [e, List.length_append, ← hm'.out]; rfl, by
            rw [e, List.flatMap_append]
            have : [rs[k]].flatMap PR.cells = [.int .i64 p.f, .int .i64 p.t, .slice A1 m1 c1'] := by simp [PR.cells, hp'.out, hvk'.out]
            rw [this]; exact h6⟩
        case measure => simp [intOf]; omega
    · have hkn : k = n := by omega
      subst hkn
      have hq2 : wr.cell? ⟨b, 1, none⟩ = some (.slice A k cap) := hH'.out.cellAt 3 0 1 rfl rfl rfl
      have hd0 : H W wr (clo bx gv :: SP :: hdr b N (.slice A k cap) :: datas rs :: S' :: L) := (((hH'.out.pick 4 rfl).pick 4 rfl).pick 4 rfl).pick 4 rfl
      have hd := Lib.hid hd0
      clear hd0
      go_wp2_with (go_at_call 31; refine (del_any_disc hd.out hs'.out hlen'.out hn hok'.out hv'.out).mono ?_; rintro e w2 ⟨SP', rfl, h2, h3⟩; have q1 : w2.cell? ⟨b, 1, none⟩ = some (.slice A k cap) := h2.cellAt 2 0 1 rfl rfl rfl; have q2 : w2.frozen? ⟨b, 1, none⟩ = false := h2.freeAt 2 0 1 rfl rfl)
      have hf := (h2.pick 2 rfl).setCell 1 (.slice A (keep (fun p => discB gv p.f p.t) rs).length cap)
      go_ret
      have e : rs.take k = rs := List.take_of_length_le (by rw [hlen'.out]; exact Nat.le_refl _)
      have hm2 := hm'.out
      have ho2 := hown'.out
      rw [e] at hm2 ho2
      exact ⟨A', m, c', S', A, cap, SP', rfl, hf.swap, h3, hm2, ho2⟩

end Go.Proofs.Ytggphdbifjoflaa
