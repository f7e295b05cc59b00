import Derived.Test.YtfhoblchgeijkaaSd
namespace Go.Proofs.Ytfhoblchgeijkaa
open Go.RowKit Go.Maps
variable {W w : World} {L T : List Seg} {n : Bs} {b r : Nat} {d e : AD} {S : Seg}

theorem FOk.le {k m : Nat} {l : List AF} (h : FOk k l) (hm : k ≤ m) : FOk m l := ⟨by have := h.1; omega, fun f hf => by have := h.2 f hf; omega⟩

theorem two_do {x : AV} (h : Two W w L b d r e) (hx : x.ok L) (hs : x.small) (hf : FOk 200 d.fs) :
    Calls Try.prog 20 #[.pointer (some ⟨b, 0, none⟩), .agg #[.int .i64 x.kind, .string (bstr x.name), .string (bstr x.tgt), x.data.1, .int .i64 x.n, x.picks.1]] w (PErr (d.stepE x) fun w' => Two W w' L b (d.step x) r e) :=
  h.prog (Q := fun y => y = .returned (.int .i64 (d.stepE x))) fun _ hT hD => do_prog hD (hx.mono hT) hs hf
theorem two_rdo {x : AV} (h : Two W w L b d r e) (hx : x.ok L) (hs : x.small) (hf : FOk 200 e.fs) (hso : e.sorted) :
    Calls Try.prog 21 #[.pointer (some ⟨r, 0, none⟩), .agg #[.int .i64 x.kind, .string (bstr x.name), .string (bstr x.tgt), x.data.1, .int .i64 x.n, x.picks.1]] w (PErr (e.stepE x) fun w' => Two W w' L b d r (e.step x)) :=
  h.ref (Q := fun y => y = .returned (.int .i64 (e.stepE x))) fun _ hT hD => do_ref hD (hx.mono hT) hs hf hso

theorem two_new (h : Disk W w L b AD.new) : Two W (w.alloc (.cells #[.slice none 0 0, .bool false, .int .i64 0, .bool false] 43)) L b AD.new w.heap.size AD.new := by
  obtain ⟨M, SM, fr, h1, h2⟩ := h.alloc (.cells #[.slice none 0 0, .bool false, .int .i64 0, .bool false] 43)
  refine ⟨.slice none 0 0, [], [], ⟨M, SM, fr, ?_, h2⟩, ⟨OwnS.nil _ _, by simp, rfl, by decide, by simp⟩⟩
  exact h1.re (by intro c hc h0; simp only [List.flatten_cons, hc, rdatas, List.flatMap_nil, h0, rhdr, AD.new]; simp)

theorem Two.drew (h : Two W w L b d r e) : Two W w.drew L b d r e := by
  obtain ⟨lv, SL, rs, ⟨M, SM, fr, h1, h3⟩, h2⟩ := h
  exact ⟨lv, SL, rs, ⟨M, SM, fr, h1.drew, h3⟩, h2⟩

set_option maxRecDepth 100000 in
set_option maxHeartbeats 6400000 in
theorem acts_any {A : Option Addr} {c : Nat} {xs : List AV} (h : H W w L) (ha : AArg L A c xs) : Calls Try.prog 6 #[.slice A xs.length c] w (PTrue W L) := by
  have h' := Lib.hid h
  have ha' := Lib.hid ha
  clear h ha
  go_enter Try.func6, Try.ntmps6
  go_wp2_with fail
  refine (heavy_any h'.out ha'.out).mono ?_
  rintro e w1 ⟨hv, rfl, h1, hsm⟩
  have h1' := Lib.hid h1
  have hsm' := Lib.hid hsm
  clear h1 hsm h'
  cases hv with
  | true =>
    go_wp2_with fail
    refine (awake_true h1'.out).mono ?_
    rintro e w9 ⟨rfl, h9⟩
    have h9' := Lib.hid h9
    clear h9
    go_wp2_with fail
    go_ret
    exact ⟨rfl, h9'.out⟩
  | false =>
    have hN := (hsm'.out rfl).1
    have hsm2 := Lib.hid (hsm'.out rfl).2
    go_wp2_with fail
    refine (new_any h1'.out).mono ?_
    rintro e w2 ⟨b, rfl, h2⟩
    have h2' := Lib.hid (two_new h2)
    clear h2
    go_wp2_with fail
    go_loopw [5] (fun i wr => ∃ k : Nat, k ≤ xs.length ∧ i = .int .i64 k ∧ ∃ d, FOk k d.fs ∧ Two W wr L b d w2.heap.size d) (fun i _ => xs.length - (intOf i).toNat)
    case atStart => exact ⟨0, Nat.zero_le _, rfl, AD.new, ⟨by simp [AD.new], by simp [AD.new]⟩, h2'.out⟩
    case round =>
      obtain ⟨k, hk, rfl, d, hfk, hw⟩ := hrel
      have hw' := Lib.hid hw
      have hfk' := Lib.hid hfk
      clear hw hfk h2'
      generalize w2.heap.size = r at *
      by_cases hlt : k < xs.length
      · have hki : (k : Int) < (xs.length : Int) := by omega
        obtain ⟨g, o, rfl, hcell⟩ := ha'.out.get (by omega)
        obtain ⟨x, hx⟩ : ∃ x, xs[k] = x := ⟨_, rfl⟩
        have hxm : x ∈ xs := by rw [← hx]; exact List.getElem_mem hlt
        have hxo := Lib.hid (ha'.out.each x hxm)
        have hxs := Lib.hid (hsm2.out x hxm)
        have hfd := Lib.hid (hfk'.out.le (show k ≤ 200 by omega))
        have hfn := Lib.hid (step_fits hfk'.out hxs.out)
        have hcl := Lib.hid (show ∀ w', H W w' L → w'.cell? ⟨g, o + k * 6, none⟩ = some (.int .i64 x.kind) ∧ w'.cell? ⟨g, o + k * 6 + 1, none⟩ = some (.string (bstr x.name)) ∧ w'.cell? ⟨g, o + k * 6 + 2, none⟩ = some (.string (bstr x.tgt)) ∧ w'.cell? ⟨g, o + k * 6 + 3, none⟩ = some x.data.1 ∧ w'.cell? ⟨g, o + k * 6 + 4, none⟩ = some (.int .i64 x.n) ∧ w'.cell? ⟨g, o + k * 6 + 5, none⟩ = some x.picks.1 from fun w' hw => by
          have q := hcell W w' hw k hlt
          rw [hx] at q
          exact ⟨q 0 _ (by decide) rfl, q 1 _ (by decide) rfl, q 2 _ (by decide) rfl, q 3 _ (by decide) rfl, q 4 _ (by decide) rfl, q 5 _ (by decide) rfl⟩)
        clear hcell hx hxm
        go_wp2_with fail
        refine wpF_start (S := (fun w' => w'.cell? ⟨g, o + k * 6, none⟩ = some (.int .i64 x.kind) ∧ w'.cell? ⟨g, o + k * 6 + 1, none⟩ = some (.string (bstr x.name)) ∧ w'.cell? ⟨g, o + k * 6 + 2, none⟩ = some (.string (bstr x.tgt)) ∧ w'.cell? ⟨g, o + k * 6 + 3, none⟩ = some x.data.1 ∧ w'.cell? ⟨g, o + k * 6 + 4, none⟩ = some (.int .i64 x.n) ∧ w'.cell? ⟨g, o + k * 6 + 5, none⟩ = some x.picks.1)) (fins := []) (by kernel_rfl) ?_ (fun hHeld => ?_)
        · exact hcl.out _ hw'.out.drew.h
        refine wpF_take 0 (v := ?_) hHeld (by simp only [List.getElem?_toArray, List.getElem?_cons_zero]; exact rfl) (by kernel_rfl) (by exact fun _ _ _ h => h) (by rfl) ?_ ?_
        rotate_left
        · (intro w hSw; (try dsimp only at hSw); go_simp; try with_reducible rfl)
        try simp only [Act.put, List.setIfInBounds_toArray, List.set_cons_zero, List.set_cons_succ]
        refine wpF_take 1 (v := ?_) hHeld (by simp only [List.getElem?_toArray, List.getElem?_cons_succ, List.getElem?_cons_zero]; exact rfl) (by kernel_rfl) (by exact fun _ _ _ h => h) (by rfl) ?_ ?_
        rotate_left
        · (intro w hSw; (try dsimp only at hSw); go_simp; try with_reducible rfl)
        try simp only [Act.put, List.setIfInBounds_toArray, List.set_cons_zero, List.set_cons_succ]
        refine wpF_take 2 (v := ?_) hHeld (by simp only [List.getElem?_toArray, List.getElem?_cons_succ, List.getElem?_cons_zero]; exact rfl) (by kernel_rfl) (by exact fun _ _ _ h => h) (by rfl) ?_ ?_
        rotate_left
        · (intro w hSw; (try dsimp only at hSw); go_simp; try with_reducible rfl)
        try simp only [Act.put, List.setIfInBounds_toArray, List.set_cons_zero, List.set_cons_succ]
        refine wpF_take 3 (v := ?_) hHeld (by simp only [List.getElem?_toArray, List.getElem?_cons_succ, List.getElem?_cons_zero]; exact rfl) (by kernel_rfl) (by exact fun _ _ _ h => h) (by rfl) ?_ ?_
        rotate_left
        · (intro w hSw; (try dsimp only at hSw); go_simp; try with_reducible rfl)
        try simp only [Act.put, List.setIfInBounds_toArray, List.set_cons_zero, List.set_cons_succ]
        refine wpF_take 4 (v := ?_) hHeld (by simp only [List.getElem?_toArray, List.getElem?_cons_succ, List.getElem?_cons_zero]; exact rfl) (by kernel_rfl) (by exact fun _ _ _ h => h) (by rfl) ?_ ?_
        rotate_left
        · (intro w hSw; (try dsimp only at hSw); go_simp; try with_reducible rfl)
        try simp only [Act.put, List.setIfInBounds_toArray, List.set_cons_zero, List.set_cons_succ]
        refine wpF_take 6 (v := ?_) hHeld (by simp only [List.getElem?_toArray, List.getElem?_cons_succ, List.getElem?_cons_zero]; exact rfl) (by kernel_rfl) (by exact fun _ _ _ h => h) (by rfl) ?_ ?_
        rotate_left
        · (intro w hSw; (try dsimp only at hSw); go_simp; try with_reducible rfl)
        try simp only [Act.put, List.setIfInBounds_toArray, List.set_cons_zero, List.set_cons_succ]
        refine wpF_take 7 (v := ?_) hHeld (by simp only [List.getElem?_toArray, List.getElem?_cons_succ, List.getElem?_cons_zero]; exact rfl) (by kernel_rfl) (by exact fun _ _ _ h => h) (by rfl) ?_ ?_
        rotate_left
        · (intro w hSw; (try dsimp only at hSw); go_simp; try with_reducible rfl)
        try simp only [Act.put, List.setIfInBounds_toArray, List.set_cons_zero, List.set_cons_succ]
        refine wpF_take 8 (v := ?_) hHeld (by simp only [List.getElem?_toArray, List.getElem?_cons_succ, List.getElem?_cons_zero]; exact rfl) (by kernel_rfl) (by exact fun _ _ _ h => h) (by rfl) ?_ ?_
        rotate_left
        · (intro w hSw; (try dsimp only at hSw); go_simp; try with_reducible rfl)
        try simp only [Act.put, List.setIfInBounds_toArray, List.set_cons_zero, List.set_cons_succ]
        refine wpF_take 9 (v := ?_) hHeld (by simp only [List.getElem?_toArray, List.getElem?_cons_succ, List.getElem?_cons_zero]; exact rfl) (by kernel_rfl) (by exact fun _ _ _ h => h) (by rfl) ?_ ?_
        rotate_left
        · (intro w hSw; (try dsimp only at hSw); go_simp; try with_reducible rfl)
        try simp only [Act.put, List.setIfInBounds_toArray, List.set_cons_zero, List.set_cons_succ]
        refine wpF_take 10 (v := ?_) hHeld (by simp only [List.getElem?_toArray, List.getElem?_cons_succ, List.getElem?_cons_zero]; exact rfl) (by kernel_rfl) (by exact fun _ _ _ h => h) (by rfl) ?_ ?_
        rotate_left
        · (intro w hSw; (try dsimp only at hSw); go_simp; try with_reducible rfl)
        try simp only [Act.put, List.setIfInBounds_toArray, List.set_cons_zero, List.set_cons_succ]
        refine wpF_one 5 (by simp only [List.getElem?_toArray, List.getElem?_cons_succ, List.getElem?_cons_zero]; exact rfl) (by kernel_rfl) (fun K hK => ?_)
        go_simp
        refine (two_do hw'.out.drew hxo.out hxs.out hfd.out).mono ?_
        rintro e w3 ⟨rfl, h3⟩
        refine hK _ _ ?_ (fun hHeld => ?_)
        · exact hcl.out _ h3.h
        clear hK K
        try simp only [Act.put, List.setIfInBounds_toArray, List.set_cons_zero, List.set_cons_succ]
        refine wpF_one 11 (by simp only [List.getElem?_toArray, List.getElem?_cons_succ, List.getElem?_cons_zero]; exact rfl) (by kernel_rfl) (fun K hK => ?_)
        go_simp
        refine (two_rdo h3 hxo.out hxs.out hfd.out hw'.out.sorted).mono ?_
        rintro e w4 ⟨rfl, h4⟩
        refine hK _ _ ?_ (fun hHeld => ?_)
        · exact hcl.out _ h4.h
        clear hK K
        try simp only [Act.put, List.setIfInBounds_toArray, List.set_cons_zero, List.set_cons_succ]
        refine wpF_take 12 (v := ?_) hHeld (by simp only [List.getElem?_toArray, List.getElem?_cons_succ, List.getElem?_cons_zero]; exact rfl) (by kernel_rfl) (by exact fun _ _ _ h => h) (by rfl) ?_ ?_
        rotate_left
        · (intro w hSw; (try dsimp only at hSw); go_simp; try with_reducible rfl)
        try simp only [Act.put, List.setIfInBounds_toArray, List.set_cons_zero, List.set_cons_succ]
        refine wpF_done (by kernel_rfl) ?_
        have h4' := Lib.hid h4
        have hnm : x.name.length ≤ maxLen := by have := hxs.out.name; unfold maxLen; omega
        obtain ⟨_, c1, _⟩ := hcl.out _ h4'.out.h
        clear h4 h3
        go_wp2_with fail
        refine (two_read (n := x.name) h4'.out hnm).mono ?_
        rintro e w5 ⟨A5, c5, S5, rfl, h5, o5⟩
        have h5' := Lib.hid h5
        have o5' := Lib.hid o5
        clear h5 o5
        obtain ⟨_, c1b, _⟩ := hcl.out _ h5'.out.h.drop
        go_wp2_with fail
        refine (two_rread (n := x.name) h5'.out).mono ?_
        rintro e w6 ⟨A6, c6, S6, rfl, h6, o6⟩
        have hrd := rd_len hfn.out x.name
        have hcv5 : (convert 27 9 (.slice A5 ((d.step x).rd x.name).length c5)).run Try.prog w6 = .ok (.string (bstr ((d.step x).rd x.name))) w6 := RL.conv h6.h (((o5'.out.rl (by omega) L).cons S6))
        have hcv6 : (convert 27 9 (.slice A6 ((d.step x).rd x.name).length c6)).run Try.prog w6 = .ok (.string (bstr ((d.step x).rd x.name))) w6 := RL.conv h6.h (o6.rl (by omega) _)
        have h6' := Lib.hid h6
        clear h6 o6 hrd
        go_wp2_with fail
        refine (same_any h6'.out.drop.drop (hfn.out.le (by omega))).mono ?_
        rintro e w7 ⟨rfl, h7⟩
        have h7' := Lib.hid h7
        clear h7
        go_wp2_with fail
        exact ⟨⟨k + 1, by omega, by go_num, _, hfn.out, h7'.out⟩, by simp [intOf]; omega⟩
      · have hki : ¬ (k : Int) < (xs.length : Int) := by omega
        go_wp2_with fail
        refine (awake_true hw'.out.h).mono ?_
        rintro e w9 ⟨rfl, h9⟩
        have h9' := Lib.hid h9
        clear h9
        go_wp2_with fail
        go_ret
        exact ⟨rfl, h9'.out⟩
end Go.Proofs.Ytfhoblchgeijkaa
