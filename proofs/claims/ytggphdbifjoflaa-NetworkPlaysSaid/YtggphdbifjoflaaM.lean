import Derived.Test.YtggphdbifjoflaaK
namespace Go.Proofs.Ytggphdbifjoflaa
open Go.RowKit
variable {W w : World} {L : List Seg} {v : Value} {l : List UInt8} {b : Nat} {N x y : Int} {ps : List Pcl}

theorem zcells_len (k : Nat) : (Builtin.zeroCells (Value.agg #[.int .i64 0, .int .i64 0, .slice none 0 0]).cells k).size = k * 3 := by
  rw [size_zeroCells]; rfl
theorem zcells_one (k : Nat) : ∀ u ∈ (Builtin.zeroCells (Value.agg #[.int .i64 0, .int .i64 0, .slice none 0 0]).cells k).toList, u.oneCell' = true := by
  intro u hu
  have : u ∈ (Builtin.zeroCells (Value.agg #[.int .i64 0, .int .i64 0, .slice none 0 0]).cells k) := by simpa using hu
  unfold Builtin.zeroCells at this
  obtain ⟨i, _, rfl⟩ := Array.mem_map.1 this
  have h3 : i % (Value.agg #[.int .i64 0, .int .i64 0, .slice none 0 0]).cells.size < 3 := Nat.mod_lt _ (by decide)
  generalize i % (Value.agg #[.int .i64 0, .int .i64 0, .slice none 0 0]).cells.size = j at h3
  match j, h3 with
  | 0, _ => rfl
  | 1, _ => rfl
  | 2, _ => rfl

set_option maxRecDepth 100000 in
set_option maxHeartbeats 3200000 in
theorem del_flow {rs : List PR} {g n cap bx : Nat} {gv : Int} {cur : Array Value} (h : H W w (clo bx gv :: [(g, .cells cur 30 (0, 0))] :: L))
    (hs : OwnS 30 3 (.slice (some ⟨g, 0, none⟩) n cap) n (rs.flatMap PR.cells) [(g, .cells cur 30 (0, 0))]) (hlen : rs.length = n) (hn : n ≤ 4096) (hnc : n ≤ cap) (hsz : cur.size = cap * 3)
    (hok : ∀ r ∈ rs, okP r.p) (hv : ∀ r ∈ rs, ∃ A m c, r.v = .slice A m c) :
    Calls Try.prog 31 #[.slice (some ⟨g, 0, none⟩) n cap, .func (.func 26) #[] #[.pointer (some ⟨bx, 0, none⟩)]] w (PDel W L (clo bx gv) g cap (fun p => flowB gv p.f p.t) rs) := by
  have htk : cur.toList.take (n * 3) = rs.flatMap PR.cells := by
    rcases hs.2 with ⟨hv, _⟩ | ⟨g', cap', cur', hv, hS, _, _, _, ht⟩
    · simp at hv
    · simp at hS; obtain ⟨_, rfl⟩ := hS; exact ht
  have h' := Lib.hid h
  have hs' := Lib.hid hs
  have hlen' := Lib.hid hlen
  have hok' := Lib.hid hok
  have hv' := Lib.hid hv
  have htk' := Lib.hid htk
  have hsz' := Lib.hid hsz
  obtain ⟨i30', hi30, hz30⟩ := z30
  have hi30' := Lib.hid hi30
  have hz30' := Lib.hid hz30
  clear h hs hlen hok hv htk hsz hi30 hz30
  go_enter Try.func31, Try.ntmps31
  go_wp2_with (go_at_call 32; refine (idx_flow h'.out hs'.out hlen'.out hn hok'.out hv'.out).mono ?_; rintro e w1 ⟨h1, ⟨k, hk, rfl, hq, hfst⟩ | ⟨rfl, hall⟩⟩; have hkn : k < n := hlen'.out ▸ hk)
  · have inv0 := Lib.hid (DelInv.start (q := fun p => flowB gv p.f p.t) hlen'.out htk'.out hk hq hfst)
    have h1' := Lib.hid h1
    clear h1 hq hfst hk
    go_loopw [5, 6] (fun i j wr => ∃ a c : Nat, ∃ cur' : Array Value, i = .int .i64 a ∧ j = .int .i64 c ∧ a < n ∧ c ≤ n ∧ H W wr (clo bx gv :: [(g, .cells cur' 30 (0, 0))] :: L) ∧ DelInv (fun p => flowB gv p.f p.t) rs cur cur' a c) (fun _ j _ => n - (intOf j).toNat)
    case atStart => exact ⟨k, k + 1, cur, rfl, by go_num, hkn, by omega, h1'.out, inv0.out⟩
    case round =>
      obtain ⟨a, c, cur', rfl, rfl, han, hcn, hH, inv⟩ := hrel
      have hH' := Lib.hid hH
      have inv' := Lib.hid inv
      have hac := inv.lt
      clear hH inv
      by_cases hlt : c < n
      · have hcr : c < rs.length := by rw [hlen'.out]; exact hlt
        have hcz : cur'.size = cap * 3 := inv'.out.size.trans hsz'.out
        have cellc : ∀ j, j < 3 → cur'[c * 3 + j]? = (rs[c].cells)[j]? := by
          intro j hj
          rw [inv'.out.drop _ (by omega), ← flat_get rs c hcr j hj, ← htk'.out, List.getElem?_take, if_pos (by omega), Array.getElem?_toList]
        obtain ⟨A, m, cc, hvk⟩ := hv'.out _ (List.getElem_mem hcr)
        obtain ⟨o1, o2, o3, o4⟩ := hok'.out _ (List.getElem_mem hcr)
        have c0 : wr.cell? ⟨g, c * 3, none⟩ = some (.int .i64 (rs[c]).p.f) := hH'.out.cellAt 1 0 _ rfl rfl (cellc 0 (by decide))
        have c1 : wr.cell? ⟨g, c * 3 + 1, none⟩ = some (.int .i64 (rs[c]).p.t) := hH'.out.cellAt 1 0 _ rfl rfl (cellc 1 (by decide))
        have c2 : wr.cell? ⟨g, c * 3 + 2, none⟩ = some (rs[c]).v := hH'.out.cellAt 1 0 _ rfl rfl (cellc 2 (by decide))
        rw [hvk] at c2
        have hgl := hH'.out.ltAt 1 0 rfl rfl
        have hci : (c : Int) < (n : Int) := by omega
        have hai : (a : Int) < (n : Int) := by omega
        have hcz' := Lib.hid hcz
        have hvk' := Lib.hid hvk
        clear cellc hcz hvk
        generalize hp : (rs[c]).p = p at *
        have hp' := Lib.hid hp
        clear hp
        have hb0 := Lib.hid ((hH'.out.alloc (.cells #[.int .i64 p.f, .int .i64 p.t, .slice A m cc] 30)).swap)
        cases hq : flowB gv p.f p.t
        · have hq' := Lib.hid hq
          clear hq
          go_wp2_with (go_at_call 26; refine (flow1 gv A m cc bx hb0.out o1 o2 o3 o4).mono ?_; rw [hq'.out]; rintro e w2 ⟨rfl, h2⟩
                       have d0 : w2.cell? ⟨wr.heap.size, 0, none⟩ = some (.int .i64 p.f) := h2.cellAt 1 0 0 rfl rfl rfl
                       have d1 : w2.cell? ⟨wr.heap.size, 1, none⟩ = some (.int .i64 p.t) := h2.cellAt 1 0 1 rfl rfl rfl
                       have d2 : w2.cell? ⟨wr.heap.size, 2, none⟩ = some (.slice A m cc) := h2.cellAt 1 0 2 rfl rfl rfl
                       obtain ⟨v0, e0⟩ : ∃ v0, w2.cell? ⟨g, a * 3, none⟩ = some v0 := ⟨_, h2.cellAt 2 0 (a * 3) rfl rfl (Array.getElem?_eq_getElem (by rw [hcz'.out]; omega))⟩
                       obtain ⟨v1, e1⟩ : ∃ v1, w2.cell? ⟨g, a * 3 + 1, none⟩ = some v1 := ⟨_, h2.cellAt 2 0 (a * 3 + 1) rfl rfl (Array.getElem?_eq_getElem (by rw [hcz'.out]; omega))⟩
                       obtain ⟨v2, e2⟩ : ∃ v2, w2.cell? ⟨g, a * 3 + 2, none⟩ = some v2 := ⟨_, h2.cellAt 2 0 (a * 3 + 2) rfl rfl (Array.getElem?_eq_getElem (by rw [hcz'.out]; omega))⟩
                       have f0 := fun k => h2.freeAt 2 0 k rfl rfl)
          go_roundw
          case rel =>
            have h3 := (((h2.pick 2 rfl).setCell (a * 3) (.int .i64 p.f)).setCell (a * 3 + 1) (.int .i64 p.t)).setCell (a * 3 + 2) (.slice A m cc)
            have hm := inv'.out.move hcr (by rw [hlen'.out, hsz'.out]; omega) (by rw [hp'.out]; exact hq'.out)
            rw [hp'.out, hvk'.out] at hm
            (repeat apply Exists.intro)
            exact ⟨⟨a + 1, c + 1, _, by go_num, by go_num, by omega, by omega, ((h3.pick 2 rfl).drop).swap, hm⟩, rfl⟩
          case measure => simp [intOf]; omega
        · have hq' := Lib.hid hq
          clear hq
          go_wp2_with (go_at_call 26; refine (flow1 gv A m cc bx hb0.out o1 o2 o3 o4).mono ?_; rw [hq'.out]; rintro e w2 ⟨rfl, h2⟩)
          go_roundw
          case rel =>
            (repeat apply Exists.intro)
            exact ⟨⟨a, c + 1, cur', rfl, by go_num, han, by omega, (h2.swap).drop, inv'.out.skip hcr (by rw [hp'.out]; exact hq'.out)⟩, rfl⟩
          case measure => simp [intOf]; omega
      · have hcn' : c = n := by omega
        subst hcn'
        have hfit := Lib.hid (show a * 3 + (Builtin.zeroCells (Value.agg #[.int .i64 0, .int .i64 0, .slice none 0 0]).cells (c - a)).size ≤ cur'.size by
          rw [zcells_len, inv'.out.size, hsz'.out]; omega)
        obtain ⟨w3, hclr, h7⟩ := H.clear (c := cap - a) (off := a * 3) Try.underlying47 hi30'.out hz30'.out hH'.out.swap (show 0 < c - a by omega) hfit.out (zcells_one _) 0
        have h7' := Lib.hid h7
        clear h7
        have hai : (a : Int) ≤ (c : Int) := by omega
        have hca : ¬ cap = a := by omega
        go_wp2
        go_ret
        have hlen2 : (keep (fun p => flowB gv p.f p.t) rs).length = a := by
          have := inv'.out.len; rw [List.take_of_length_le (by rw [hlen'.out]; exact Nat.le_refl _)] at this; exact this
        refine ⟨_, by rw [hlen2]; rfl, h7'.out.swap, ?_, ?_⟩
        · show (spl cur'.toList (a * 3) _).length = cap * 3
          rw [spl_length (by have := hfit.out; simpa using this), Array.length_toList, inv'.out.size, hsz'.out]
        · rw [hlen2]
          show (spl cur'.toList (a * 3) _).take (a * 3) = _
          rw [take_spl (by rw [Array.length_toList, inv'.out.size, hsz'.out]; omega), inv'.out.take, List.take_of_length_le (by rw [hlen'.out]; exact Nat.le_refl _)]
  · have hall' := Lib.hid hall
    have h1' := Lib.hid h1
    clear h1 hall
    go_ret
    have e : keep (fun p => flowB gv p.f p.t) rs = rs := keep_all hall'.out
    refine ⟨cur, ?_, h1'.out, hsz'.out, ?_⟩
    · rw [e, hlen'.out]; rfl
    · rw [e, hlen'.out]; exact htk'.out
end Go.Proofs.Ytggphdbifjoflaa
