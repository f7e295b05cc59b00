import Derived.Test.YtfhoblchgeijkaaJB
set_option linter.unusedVariables false
set_option linter.unusedSimpArgs false
/-! part Js -/
namespace Go.Proofs.Ytfhoblchgeijkaa
open Go.RowKit Go.Maps
variable {W w : World} {L T : List Seg} {S SO SI : Seg} {v : Value} {ls : List Bs}

theorem ofNat_toNat (k : Nat) (h : k < 9223372036854775808) : ((UInt64.ofNat k).toNat : Int) = (k : Int) := by
  rw [UInt64.toNat_ofNat']; omega
theorem chk_proN (k : Nat) {A : Option Addr} {c : Nat} {l : List UInt8} (h : H W w L) (hr : RS L 1 (.slice A l.length c) l.length (u8s l)) (hl : l.length ≤ 1099511620000) (hk : k < 9223372036854775808) :
    Calls Try.prog 58 #[.int .i64 (k : Int), .slice A l.length c] w (POf (chk (UInt64.ofNat k) l) W L) := by
  have e := ofNat_toNat k hk
  rw [← e]
  exact chk_pro _ h hr hl (by omega)
theorem chk_refN (k : Nat) {A : Option Addr} {c : Nat} {l : List UInt8} (h : H W w L) (hr : RS L 1 (.slice A l.length c) l.length (u8s l)) (hl : l.length ≤ 1099511620000) (hk : k < 9223372036854775808) :
    Calls Try.prog 61 #[.int .i64 (k : Int), .slice A l.length c] w (POf (chk (UInt64.ofNat k) l) W L) := by
  have e := ofNat_toNat k hk
  rw [← e]
  exact chk_ref _ h hr hl (by omega)
theorem rl_arr (b : Nat) (z : UInt64) (L : List Seg) : RL ([(b, .cells (u8s (ofB z)).toArray 95 (0, 0))] :: L) (.slice (some ⟨b, 0, none⟩) 8 8) (ofB z) :=
  ⟨by rw [ofB_len]; omega, rfl, .inr ⟨b, 0, 8, (u8s (ofB z)).toArray, 95, (0, 0), rfl, by simp, fun j u hu => by simpa using hu⟩⟩
/-- b[i:j:j], with the part's own length. -/
theorem slice_sub3 {A : Option Addr} {c i j : Nat} {l : List UInt8} (hr : RS L 1 (.slice A l.length c) l.length (u8s l)) (hij : i ≤ j) (hj : j ≤ l.length) (hc : l.length ≤ c) :
    ∃ B, (∀ (x y : Int) w, x = (i : Int) → y = (j : Int) → (Instr.slice 27 (.slice A l.length c) (some (.int .i64 x)) (some (.int .i64 y)) (some (.int .i64 y))).run Try.prog w = .ok (.slice B (sub l i j).length (sub l i j).length) w) ∧
      RS L 1 (.slice B (sub l i j).length (sub l i j).length) (sub l i j).length (u8s (sub l i j)) := by
  rw [sub_len hj]
  have := slice_ijj hr hij hj hc
  rw [sub_len hj] at this
  exact this
theorem slice_sub2 {A : Option Addr} {c i j : Nat} {l : List UInt8} (hr : RS L 1 (.slice A l.length c) l.length (u8s l)) (hij : i ≤ j) (hj : j ≤ l.length) (hc : l.length ≤ c) :
    ∃ B c', (∀ (x y : Int) w, x = (i : Int) → y = (j : Int) → (Instr.slice 27 (.slice A l.length c) (some (.int .i64 x)) (some (.int .i64 y)) none).run Try.prog w = .ok (.slice B (sub l i j).length c') w) ∧
      RS L 1 (.slice B (sub l i j).length c') (sub l i j).length (u8s (sub l i j)) ∧ (sub l i j).length ≤ c' := by
  rw [sub_len hj]
  have := slice_ij hr hij hj hc
  rw [sub_len hj] at this
  exact this

theorem w64i {x : Int} (h0 : -9223372036854775808 ≤ x) (h1 : x < 9223372036854775808) : IntKind.i64.wrap x = x := by simp [IntKind.wrap, IntKind.signed, IntKind.bits]; omega
theorem RL_of {v : Value} {l : Bs} (h : RS L 1 v l.length (u8s l)) (hl : l.length ≤ 1099511627776) : RL L v l := ⟨by omega, h⟩
theorem mem_to2 {A B : Seg} : ∀ p ∈ (A :: B :: L).flatten, p ∈ (B :: A :: L).flatten := by
  intro p hp
  simp only [List.flatten_cons, List.mem_append] at hp ⊢
  rcases hp with hp | hp | hp
  · exact .inr (.inl hp)
  · exact .inl hp
  · exact .inr (.inr hp)
theorem H.drop1 {A B : Seg} (h : H W w (A :: B :: L)) : H W w (A :: L) := h.swap.drop
/-- The records and the length come back. -/
def PParse (W : World) (L : List Seg) (r : List Bs × Nat) (e : Ending) (w' : World) : Prop :=
  ∃ A c SO SI, e = .returned (.tuple #[.slice A r.1.length c, .int .i64 r.2]) ∧ H W w' (SO :: SI :: L) ∧ Rows (.slice A r.1.length c) r.1 SO SI

set_option maxRecDepth 100000 in
set_option maxHeartbeats 6400000 in
theorem parse_pro {A : Option Addr} {cc : Nat} {c : Bs} (h : H W w L) (hr : RS L 1 (.slice A c.length cc) c.length (u8s c)) (hc : c.length ≤ cc) (hl : c.length ≤ 1099511620000) :
    Calls Try.prog 25 #[.slice A c.length cc] w (PParse W L (parseV c 0 0)) := by
  have h' := Lib.hid h
  have hr' := Lib.hid hr
  clear h hr
  go_enter Try.func25, Try.ntmps25
  go_wp2_with fail
  go_loopw [4, 5] (fun v i wr => ∃ (ls : List Bs) (at' : Nat) (SO SI : Seg), AtP c ls at' ∧ i = .int .i64 at' ∧ H W wr (SO :: SI :: L) ∧ Rows v ls SO SI) (fun _ i _ => c.length - (intOf i).toNat)
  case atStart => exact ⟨[], 0, [], [], AtP.start c, rfl, h'.out.addNil.addNil, Rows.nil⟩
  case round =>
    obtain ⟨ls, at', SO, SI, hat, rfl, hw, hrow⟩ := hrel
    obtain ⟨A1, c1, rfl, hlc⟩ := hrow.cap
    have hat1 := hat.1
    have hat2 := hat.2.1
    have hw' := Lib.hid hw
    have hrow' := Lib.hid hrow
    have hat' := Lib.hid hat
    clear hw hrow hat h'
    have huint := uint_pro (k := at') hw'.out ((hr'.out.cons _).cons _) hc (by omega) hat1
    by_cases h4 : at' + 4 ≤ c.length
    · obtain ⟨u, hu⟩ : ∃ u, u = numB (sub c at' (at' + 4)) := ⟨_, rfl⟩
      have hun : uintV c at' = some u := by unfold uintV; rw [if_pos h4, hu]
      rw [hun] at huint
      have hla : lenAt c at' = u.toNat := by rw [hu]; rfl
      have hla' := Lib.hid hla
      clear hun hu hla
      have huint' := Lib.hid huint
      clear huint
      by_cases h5 : u.toNat ≤ 65536 ∧ at' + 12 + u.toNat ≤ c.length
      · obtain ⟨h5a, h5b⟩ := h5
        have g1 : ¬ (65536 : Int) < (u.toNat : Int) := by omega
        have g2 : ¬ (c.length : Int) - (at' : Int) - 12 < (u.toNat : Int) := by omega
        obtain ⟨B, hs3, hq3⟩ := slice_sub3 hr'.out (i := at' + 12) (j := at' + 12 + u.toNat) (by omega) h5b hc
        obtain ⟨B2, c2, hs2, hq2, hc2⟩ := slice_sub2 hr'.out (i := at' + 4) (j := at' + 12) (by omega) (by omega) hc
        have hql : (sub c (at' + 12) (at' + 12 + u.toNat)).length = u.toNat := by rw [sub_len h5b]; omega
        have hsl : (sub c (at' + 4) (at' + 12)).length = 8 := by rw [sub_len (by omega)]; omega
        have hstep : ∀ z, z = chk (UInt64.ofNat ls.length) (sub c (at' + 12) (at' + 12 + u.toNat)) → stepP c ls.length at' = if ofB z = sub c (at' + 4) (at' + 12) then some (sub c (at' + 12) (at' + 12 + u.toNat)) else none := by
          intro z hz
          unfold stepP
          rw [hla'.out, ← hz]
          by_cases he : ofB z = sub c (at' + 4) (at' + 12)
          · rw [if_pos he, if_pos ⟨by omega, h5a, h5b, he⟩]
          · rw [if_neg he, if_neg (fun hh => he hh.2.2.2)]
        generalize sub c (at' + 12) (at' + 12 + u.toNat) = q at hs3 hq3 hql hstep
        generalize sub c (at' + 4) (at' + 12) = s at hs2 hq2 hsl hstep
        have kw1 : IntKind.i64.wrap ((at' : Int) + 12) = (at' : Int) + 12 := w64i (by omega) (by omega)
        have kw2 : IntKind.i64.wrap ((at' : Int) + 4) = (at' : Int) + 4 := w64i (by omega) (by omega)
        have hs3' := fun w => hs3 ((at' : Int) + 12) ((at' : Int) + 12 + (u.toNat : Int)) w (by omega) (by omega)
        have hs2' := fun w => hs2 ((at' : Int) + 4) ((at' : Int) + 12) w (by omega) (by omega)
        have hq3' := Lib.hid hq3
        have hsq' := Lib.hid (show RL L (.slice B2 s.length c2) s from ⟨by omega, hq2⟩)
        have hql' := Lib.hid hql
        obtain ⟨z, hz⟩ : ∃ z, z = chk (UInt64.ofNat ls.length) q := ⟨_, rfl⟩
        have hstep' := Lib.hid (hstep z hz)
        have hz' := Lib.hid hz
        clear hs3 hs2 hq3 hq2 hsl hql hstep hz
        go_wp2_with fail
        refine huint'.out.mono ?_
        rintro e w1 ⟨rfl, h1⟩
        have h1' := Lib.hid h1
        clear h1 huint'
        go_wp2_with fail
        have hcall := chk_proN ls.length h1'.out ((hq3'.out.cons SI).cons SO) (by have := hql'.out; omega) (by omega)
        rw [← hz'.out] at hcall
        refine hcall.mono ?_
        rintro e wk ⟨rfl, h2⟩
        have h2' := Lib.hid h2
        clear h2 hcall h1'
        go_wp2_with (with_reducible refine stp_store ?_)
        refine wpl_storeAgg rfl rfl h2'.out.arr rfl (by intro v hv; exact u8s_one _ v (by simpa using hv)) (by kernel_rfl) ?_
        intro w3 h3
        have h3' := Lib.hid h3
        clear h3 h2'
        by_cases he : ofB z = s
        · have hst : stepP c ls.length at' = some q := by rw [hstep'.out, if_pos he]
          have hst' := Lib.hid hst
          have hbe : (ofB z == s) = true := by rw [he]; simp
          clear hst he
          go_wp2_with fail
          refine wpF_start (S := (fun w' => H W w' ([(wk.heap.size, .cells (u8s (ofB z)).toArray 95 (0, 0))] :: SO :: SI :: L))) (fins := []) (by kernel_rfl) ?_ (fun hHeld => ?_)
          · exact h3'.out.drew
          refine wpF_take 0 (v := ?_) hHeld (by simp only [List.getElem?_toArray, List.getElem?_cons_zero]; exact rfl) (by kernel_rfl) (by exact fun _ _ _ h => h) (by rfl) ?_ ?_
          rotate_left
          · (intro w hSw; (try dsimp only at hSw); go_simp; try with_reducible rfl)
          try simp only [Act.put, List.setIfInBounds_toArray, List.set_cons_zero, List.set_cons_succ]
          refine wpF_take 1 (v := ?_) hHeld (by simp only [List.getElem?_toArray, List.getElem?_cons_succ, List.getElem?_cons_zero]; exact rfl) (by kernel_rfl) (by exact fun _ _ _ h => h) (by rfl) ?_ ?_
          rotate_left
          · (intro w hSw; (try dsimp only at hSw); go_simp; try with_reducible rfl)
          try simp only [Act.put, List.setIfInBounds_toArray, List.set_cons_zero, List.set_cons_succ]
          refine wpF_take 2 (v := ?_) hHeld (by simp only [List.getElem?_toArray, List.getElem?_cons_succ, List.getElem?_cons_zero]; exact rfl) (by kernel_rfl) (by exact fun _ _ _ h => h) (by rfl) ?_ ?_
          rotate_left
          · (intro w hSw; (try dsimp only at hSw); go_simp; try with_reducible rfl)
          try simp only [Act.put, List.setIfInBounds_toArray, List.set_cons_zero, List.set_cons_succ]
          refine wpF_take 3 (v := ?_) hHeld (by simp only [List.getElem?_toArray, List.getElem?_cons_succ, List.getElem?_cons_zero]; exact rfl) (by kernel_rfl) (by exact fun _ _ _ h => h) (by rfl) ?_ ?_
          rotate_left
          · (intro w hSw; (try dsimp only at hSw); go_simp; try with_reducible rfl)
          try simp only [Act.put, List.setIfInBounds_toArray, List.set_cons_zero, List.set_cons_succ]
          refine wpF_take 4 (v := ?_) hHeld (by simp only [List.getElem?_toArray, List.getElem?_cons_succ, List.getElem?_cons_zero]; exact rfl) (by kernel_rfl) (by exact fun _ _ _ h => h) (by rfl) ?_ ?_
          rotate_left
          · (intro w hSw; (try dsimp only at hSw); go_simp; try with_reducible rfl)
          try simp only [Act.put, List.setIfInBounds_toArray, List.set_cons_zero, List.set_cons_succ]
          refine wpF_take 5 (v := ?_) hHeld (by simp only [List.getElem?_toArray, List.getElem?_cons_succ, List.getElem?_cons_zero]; exact rfl) (by kernel_rfl) (by exact fun _ _ _ h => h) (by rfl) ?_ ?_
          rotate_left
          · (intro w hSw; (try dsimp only at hSw); go_simp; try with_reducible rfl)
          try simp only [Act.put, List.setIfInBounds_toArray, List.set_cons_zero, List.set_cons_succ]
          refine wpF_take 6 (v := ?_) hHeld (by simp only [List.getElem?_toArray, List.getElem?_cons_succ, List.getElem?_cons_zero]; exact rfl) (by kernel_rfl) (by exact fun _ _ _ h => h) (by rfl) ?_ ?_
          rotate_left
          · (intro w hSw; (try dsimp only at hSw); go_simp; try with_reducible rfl)
          try simp only [Act.put, List.setIfInBounds_toArray, List.set_cons_zero, List.set_cons_succ]
          refine wpF_one 7 (by simp only [List.getElem?_toArray, List.getElem?_cons_succ, List.getElem?_cons_zero]; exact rfl) (by kernel_rfl) (fun K hK => ?_)
          go_simp
          refine (equal_pro hHeld (rl_arr wk.heap.size z _) (((hsq'.out.cons _).cons _).cons _)).mono ?_
          rintro e w5 ⟨rfl, rfl⟩
          refine hK _ _ ?_ (fun hHeld => ?_)
          · exact hHeld
          clear hK K
          try simp only [Act.put, List.setIfInBounds_toArray, List.set_cons_zero, List.set_cons_succ]
          refine wpF_take 8 (v := ?_) hHeld (by simp only [List.getElem?_toArray, List.getElem?_cons_succ, List.getElem?_cons_zero]; exact rfl) (by kernel_rfl) (by exact fun _ _ _ h => h) (by rfl) ?_ ?_
          rotate_left
          · (intro w hSw; (try dsimp only at hSw); go_simp; try with_reducible rfl)
          try simp only [Act.put, List.setIfInBounds_toArray, List.set_cons_zero, List.set_cons_succ]
          refine wpF_done (by kernel_rfl) ?_
          go_wp2_with fail
          refine (bclone hHeld (((((RL_of hq3'.out (by have := hql'.out; omega)).cons SI).cons SO).cons _))).mono ?_
          rintro e w5 ⟨A5, c5, S5, rfl, h5, o5⟩
          have h5' := Lib.hid h5
          have o5' := Lib.hid o5
          clear h5 o5 hHeld h3'
          go_wp2_with (at_builtin; refine stp ?_)
          unfold Stp
          obtain ⟨xs, hxs, hsn⟩ := hrow'.out.more
          refine wpl_append (m := 1) (news := [.slice A5 q.length c5]) rfl (.tmp 61) (.tmp 64) rfl et22 rfl rfl (((h5'.out.alloc _).pick 3 rfl)) hxs
            ((h5'.out.lit (E := 27) (size := 1) #[.slice A5 q.length c5] 1 (by simp [maxLen]) rfl).rs (SO :: S5 :: [(wk.heap.size, .cells (u8s (ofB z)).toArray 95 (0, 0))] :: SI :: L) |>.mono mem_to2) (by intro u hu; simp at hu; subst hu; rfl) (by omega) (by omega) ?_
          intro A6 c6 w6 S6 h6 o6
          have hrow6 := Lib.hid (hsn _ _ q S5 S6 o5'.out (by have := hql'.out; omega) o6)
          have h6' := Lib.hid (show H W w6 (S6 :: (SI ++ S5) :: L) from ((show H W w6 (S6 :: S5 :: SI :: L) from ((show H W w6 (S6 :: _ :: S5 :: _ :: SI :: L) from h6).drop1.pick 2 rfl).drop).re (by intro c hc h0; simp only [List.flatten_cons, hc]; omega)))
          clear h6 o6 hsn hxs h5' o5' hrow'
          go_wp2_with fail
          have hql2 := hql'.out
          refine ⟨⟨ls ++ [q], at' + 12 + q.length, S6, SI ++ S5, hat'.out.step hst'.out, by rw [hql2]; exact congrArg _ (by omega), h6'.out, ?_⟩, by simp [intOf]; omega⟩
          have := hrow6.out
          simpa using this
        · have hst : stepP c ls.length at' = none := by rw [hstep'.out, if_neg he]
          have hst' := Lib.hid hst
          have hbe : (ofB z == s) = false := by simpa using he
          clear hst he
          go_wp2_with fail
          refine wpF_start (S := (fun w' => H W w' ([(wk.heap.size, .cells (u8s (ofB z)).toArray 95 (0, 0))] :: SO :: SI :: L))) (fins := []) (by kernel_rfl) ?_ (fun hHeld => ?_)
          · exact h3'.out.drew
          refine wpF_take 0 (v := ?_) hHeld (by simp only [List.getElem?_toArray, List.getElem?_cons_zero]; exact rfl) (by kernel_rfl) (by exact fun _ _ _ h => h) (by rfl) ?_ ?_
          rotate_left
          · (intro w hSw; (try dsimp only at hSw); go_simp; try with_reducible rfl)
          try simp only [Act.put, List.setIfInBounds_toArray, List.set_cons_zero, List.set_cons_succ]
          refine wpF_take 1 (v := ?_) hHeld (by simp only [List.getElem?_toArray, List.getElem?_cons_succ, List.getElem?_cons_zero]; exact rfl) (by kernel_rfl) (by exact fun _ _ _ h => h) (by rfl) ?_ ?_
          rotate_left
          · (intro w hSw; (try dsimp only at hSw); go_simp; try with_reducible rfl)
          try simp only [Act.put, List.setIfInBounds_toArray, List.set_cons_zero, List.set_cons_succ]
          refine wpF_take 2 (v := ?_) hHeld (by simp only [List.getElem?_toArray, List.getElem?_cons_succ, List.getElem?_cons_zero]; exact rfl) (by kernel_rfl) (by exact fun _ _ _ h => h) (by rfl) ?_ ?_
          rotate_left
          · (intro w hSw; (try dsimp only at hSw); go_simp; try with_reducible rfl)
          try simp only [Act.put, List.setIfInBounds_toArray, List.set_cons_zero, List.set_cons_succ]
          refine wpF_take 3 (v := ?_) hHeld (by simp only [List.getElem?_toArray, List.getElem?_cons_succ, List.getElem?_cons_zero]; exact rfl) (by kernel_rfl) (by exact fun _ _ _ h => h) (by rfl) ?_ ?_
          rotate_left
          · (intro w hSw; (try dsimp only at hSw); go_simp; try with_reducible rfl)
          try simp only [Act.put, List.setIfInBounds_toArray, List.set_cons_zero, List.set_cons_succ]
          refine wpF_take 4 (v := ?_) hHeld (by simp only [List.getElem?_toArray, List.getElem?_cons_succ, List.getElem?_cons_zero]; exact rfl) (by kernel_rfl) (by exact fun _ _ _ h => h) (by rfl) ?_ ?_
          rotate_left
          · (intro w hSw; (try dsimp only at hSw); go_simp; try with_reducible rfl)
          try simp only [Act.put, List.setIfInBounds_toArray, List.set_cons_zero, List.set_cons_succ]
          refine wpF_take 5 (v := ?_) hHeld (by simp only [List.getElem?_toArray, List.getElem?_cons_succ, List.getElem?_cons_zero]; exact rfl) (by kernel_rfl) (by exact fun _ _ _ h => h) (by rfl) ?_ ?_
          rotate_left
          · (intro w hSw; (try dsimp only at hSw); go_simp; try with_reducible rfl)
          try simp only [Act.put, List.setIfInBounds_toArray, List.set_cons_zero, List.set_cons_succ]
          refine wpF_take 6 (v := ?_) hHeld (by simp only [List.getElem?_toArray, List.getElem?_cons_succ, List.getElem?_cons_zero]; exact rfl) (by kernel_rfl) (by exact fun _ _ _ h => h) (by rfl) ?_ ?_
          rotate_left
          · (intro w hSw; (try dsimp only at hSw); go_simp; try with_reducible rfl)
          try simp only [Act.put, List.setIfInBounds_toArray, List.set_cons_zero, List.set_cons_succ]
          refine wpF_one 7 (by simp only [List.getElem?_toArray, List.getElem?_cons_succ, List.getElem?_cons_zero]; exact rfl) (by kernel_rfl) (fun K hK => ?_)
          go_simp
          refine (equal_pro hHeld (rl_arr wk.heap.size z _) (((hsq'.out.cons _).cons _).cons _)).mono ?_
          rintro e w5 ⟨rfl, rfl⟩
          refine hK _ _ ?_ (fun hHeld => ?_)
          · exact hHeld
          clear hK K
          try simp only [Act.put, List.setIfInBounds_toArray, List.set_cons_zero, List.set_cons_succ]
          refine wpF_take 8 (v := ?_) hHeld (by simp only [List.getElem?_toArray, List.getElem?_cons_succ, List.getElem?_cons_zero]; exact rfl) (by kernel_rfl) (by exact fun _ _ _ h => h) (by rfl) ?_ ?_
          rotate_left
          · (intro w hSw; (try dsimp only at hSw); go_simp; try with_reducible rfl)
          try simp only [Act.put, List.setIfInBounds_toArray, List.set_cons_zero, List.set_cons_succ]
          refine wpF_done (by kernel_rfl) ?_
          go_wp2_with fail
          go_ret2
          rw [hat'.out.stop hst'.out]
          exact ⟨A1, c1, SO, SI, rfl, hHeld.drop, hrow'.out⟩
      · have hst : stepP c ls.length at' = none := by
          unfold stepP
          rw [hla'.out, if_neg (fun hh => h5 ⟨hh.2.1, hh.2.2.1⟩)]
        have hst' := Lib.hid hst
        clear hst
        by_cases h6 : u.toNat ≤ 65536
        · have g1 : ¬ (65536 : Int) < (u.toNat : Int) := by omega
          have g2 : (c.length : Int) - (at' : Int) - 12 < (u.toNat : Int) := by omega
          go_wp2_with fail
          refine huint'.out.mono ?_
          rintro e w1 ⟨rfl, h1⟩
          have h1' := Lib.hid h1
          clear h1 huint'
          go_wp2_with fail
          go_ret2
          rw [hat'.out.stop hst'.out]
          exact ⟨A1, c1, SO, SI, rfl, h1'.out, hrow'.out⟩
        · have g1 : (65536 : Int) < (u.toNat : Int) := by omega
          go_wp2_with fail
          refine huint'.out.mono ?_
          rintro e w1 ⟨rfl, h1⟩
          have h1' := Lib.hid h1
          clear h1 huint'
          go_wp2_with fail
          go_ret2
          rw [hat'.out.stop hst'.out]
          exact ⟨A1, c1, SO, SI, rfl, h1'.out, hrow'.out⟩
    · have hst : stepP c ls.length at' = none := by
        unfold stepP
        rw [if_neg (fun hh => by omega)]
      have hun : uintV c at' = none := by unfold uintV; rw [if_neg h4]
      rw [hun] at huint
      have hst' := Lib.hid hst
      have huint' := Lib.hid huint
      clear hst hun huint
      go_wp2_with fail
      refine huint'.out.mono ?_
      rintro e w1 ⟨rfl, h1⟩
      have h1' := Lib.hid h1
      clear h1 huint'
      go_wp2_with fail
      go_ret2
      rw [hat'.out.stop hst'.out]
      exact ⟨A1, c1, SO, SI, rfl, h1'.out, hrow'.out⟩
end Go.Proofs.Ytfhoblchgeijkaa

/-! part Jt -/
namespace Go.Proofs.Ytfhoblchgeijkaa
open Go.RowKit Go.Maps
variable {W w : World} {L T : List Seg} {S SO SI : Seg} {v : Value} {ls : List Bs}

set_option maxRecDepth 100000 in
set_option maxHeartbeats 6400000 in
theorem parse_ref {A : Option Addr} {cc : Nat} {c : Bs} (h : H W w L) (hr : RS L 1 (.slice A c.length cc) c.length (u8s c)) (hc : c.length ≤ cc) (hl : c.length ≤ 1099511620000) :
    Calls Try.prog 26 #[.slice A c.length cc] w (PParse W L (parseV c 0 0)) := by
  have h' := Lib.hid h
  have hr' := Lib.hid hr
  clear h hr
  go_enter Try.func26, Try.ntmps26
  go_wp2_with fail
  go_loopw [4, 5] (fun v i wr => ∃ (ls : List Bs) (at' : Nat) (SO SI : Seg), AtP c ls at' ∧ i = .int .i64 at' ∧ H W wr (SO :: SI :: L) ∧ Rows v ls SO SI) (fun _ i _ => c.length - (intOf i).toNat)
  case atStart => exact ⟨[], 0, [], [], AtP.start c, rfl, h'.out.addNil.addNil, Rows.nil⟩
  case round =>
    obtain ⟨ls, at', SO, SI, hat, rfl, hw, hrow⟩ := hrel
    obtain ⟨A1, c1, rfl, hlc⟩ := hrow.cap
    have hat1 := hat.1
    have hat2 := hat.2.1
    have hw' := Lib.hid hw
    have hrow' := Lib.hid hrow
    have hat' := Lib.hid hat
    clear hw hrow hat h'
    by_cases h4 : at' + 12 ≤ c.length
    · have g0 : (12 : Int) ≤ (c.length : Int) - (at' : Int) := by omega
      have huint := uint_ref (k := at') hw'.out ((hr'.out.cons _).cons _) (by omega) (by omega)
      obtain ⟨u, hu⟩ : ∃ u, u = numB (sub c at' (at' + 4)) := ⟨_, rfl⟩
      rw [← hu] at huint
      have hla : lenAt c at' = u.toNat := by rw [hu]; rfl
      have hla' := Lib.hid hla
      clear hu hla
      have huint' := Lib.hid huint
      clear huint
      by_cases h5 : u.toNat ≤ 65536 ∧ at' + 12 + u.toNat ≤ c.length
      · obtain ⟨h5a, h5b⟩ := h5
        have g1 : ¬ (65536 : Int) < (u.toNat : Int) := by omega
        have g2 : ¬ (c.length : Int) - (at' : Int) - 12 < (u.toNat : Int) := by omega
        obtain ⟨B, c3, hs3, hq3, hc3⟩ := slice_sub2 hr'.out (i := at' + 12) (j := at' + 12 + u.toNat) (by omega) h5b hc
        obtain ⟨B2, c2, hs2, hq2, hc2⟩ := slice_sub2 hr'.out (i := at' + 4) (j := at' + 12) (by omega) (by omega) hc
        have hql : (sub c (at' + 12) (at' + 12 + u.toNat)).length = u.toNat := by rw [sub_len h5b]; omega
        have hsl : (sub c (at' + 4) (at' + 12)).length = 8 := by rw [sub_len (by omega)]; omega
        have hstep : ∀ z, z = chk (UInt64.ofNat ls.length) (sub c (at' + 12) (at' + 12 + u.toNat)) → stepP c ls.length at' = if ofB z = sub c (at' + 4) (at' + 12) then some (sub c (at' + 12) (at' + 12 + u.toNat)) else none := by
          intro z hz
          unfold stepP
          rw [hla'.out, ← hz]
          by_cases he : ofB z = sub c (at' + 4) (at' + 12)
          · rw [if_pos he, if_pos ⟨by omega, h5a, h5b, he⟩]
          · rw [if_neg he, if_neg (fun hh => he hh.2.2.2)]
        generalize sub c (at' + 12) (at' + 12 + u.toNat) = q at hs3 hq3 hql hstep
        generalize sub c (at' + 4) (at' + 12) = s at hs2 hq2 hsl hstep
        have kw1 : IntKind.i64.wrap ((at' : Int) + 12) = (at' : Int) + 12 := w64i (by omega) (by omega)
        have kw2 : IntKind.i64.wrap ((at' : Int) + 4) = (at' : Int) + 4 := w64i (by omega) (by omega)
        have hs3' := fun w => hs3 ((at' : Int) + 12) ((at' : Int) + 12 + (u.toNat : Int)) w (by omega) (by omega)
        have hs2' := fun w => hs2 ((at' : Int) + 4) ((at' : Int) + 12) w (by omega) (by omega)
        have hq3' := Lib.hid hq3
        have hsq' := Lib.hid (show RL L (.slice B2 s.length c2) s from ⟨by omega, hq2⟩)
        have hql' := Lib.hid hql
        obtain ⟨z, hz⟩ : ∃ z, z = chk (UInt64.ofNat ls.length) q := ⟨_, rfl⟩
        have hstep' := Lib.hid (hstep z hz)
        have hz' := Lib.hid hz
        clear hs3 hs2 hq3 hq2 hsl hql hstep hz hc2 hc3
        go_wp2_with fail
        refine huint'.out.mono ?_
        rintro e w1 ⟨rfl, h1⟩
        have h1' := Lib.hid h1
        clear h1 huint'
        go_wp2_with (at_builtin; refine stp ?_)
        unfold Stp
        have hql2 := hql'.out
        refine wpl_append (m := q.length) (news := u8s q) rfl (.tmp 35) (.tmp 44) rfl et27 rfl rfl (h1'.out.alloc _) (h1'.out.lit (E := 5) (size := 1) #[] 0 (by simp [maxLen]) rfl) (((hq3'.out.cons _).cons _).cons _) (u8s_one q) (by omega) (by omega) ?_
        intro A5 c5 w5 S5 h5 o5
        simp only [Nat.zero_add, List.nil_append] at o5
        have h5' := Lib.hid h5
        have o5' := Lib.hid o5
        clear h5 o5 h1' hql2
        go_wp2_with fail
        have hcall := chk_refN ls.length h5'.out (o5'.out.rs _) (by have := hql'.out; omega) (by omega)
        rw [← hz'.out] at hcall
        refine hcall.mono ?_
        rintro e wk ⟨rfl, h2⟩
        have h2' := Lib.hid h2
        clear h2 hcall h5'
        go_wp2_with (with_reducible refine stp_store ?_)
        refine wpl_storeAgg rfl rfl h2'.out.arr rfl (by intro v hv; exact u8s_one _ v (by simpa using hv)) (by kernel_rfl) ?_
        intro w3 h3
        have h3' := Lib.hid h3
        have kb := bstr_toList
        clear h3 h2'
        by_cases he : ofB z = s
        · have hst : stepP c ls.length at' = some q := by rw [hstep'.out, if_pos he]
          have hst' := Lib.hid hst
          have hbe : (s == ofB z) = true := by rw [he]; simp
          clear hst he
          go_wp2_with fail
          refine wpF_start (S := (fun w' => H W w' ([(wk.heap.size, .cells (u8s (ofB z)).toArray 95 (0, 0))] :: S5 :: SO :: SI :: L) ∧ (convert 27 9 (.slice B2 s.length c2)).run Try.prog w' = .ok (.string (bstr s)) w' ∧ (convert 27 9 (.slice (some ⟨wk.heap.size, 0, none⟩) 8 8)).run Try.prog w' = .ok (.string (bstr (ofB z))) w')) (fins := []) (by kernel_rfl) ?_ (fun hHeld => ?_)
          · exact ⟨h3'.out.drew, RL.conv h3'.out.drew ((((hsq'.out.cons _).cons _).cons _).cons _), RL.conv h3'.out.drew (rl_arr wk.heap.size z _)⟩
          refine wpF_take 0 (v := ?_) hHeld (by simp only [List.getElem?_toArray, List.getElem?_cons_zero]; exact rfl) (by kernel_rfl) (by exact fun _ _ _ h => h) (by rfl) ?_ ?_
          rotate_left
          · (intro w hSw; (try dsimp only at hSw); go_simp; try with_reducible rfl)
          try simp only [Act.put, List.setIfInBounds_toArray, List.set_cons_zero, List.set_cons_succ]
          refine wpF_take 1 (v := ?_) hHeld (by simp only [List.getElem?_toArray, List.getElem?_cons_succ, List.getElem?_cons_zero]; exact rfl) (by kernel_rfl) (by exact fun _ _ _ h => h) (by rfl) ?_ ?_
          rotate_left
          · (intro w hSw; (try dsimp only at hSw); go_simp; try with_reducible rfl)
          try simp only [Act.put, List.setIfInBounds_toArray, List.set_cons_zero, List.set_cons_succ]
          refine wpF_take 2 (v := ?_) hHeld (by simp only [List.getElem?_toArray, List.getElem?_cons_succ, List.getElem?_cons_zero]; exact rfl) (by kernel_rfl) (by exact fun _ _ _ h => h) (by rfl) ?_ ?_
          rotate_left
          · (intro w hSw; (try dsimp only at hSw); go_simp; try with_reducible rfl)
          try simp only [Act.put, List.setIfInBounds_toArray, List.set_cons_zero, List.set_cons_succ]
          refine wpF_take 3 (v := ?_) hHeld (by simp only [List.getElem?_toArray, List.getElem?_cons_succ, List.getElem?_cons_zero]; exact rfl) (by kernel_rfl) (by exact fun _ _ _ h => h) (by rfl) ?_ ?_
          rotate_left
          · (intro w hSw; (try dsimp only at hSw); go_simp; try with_reducible rfl)
          try simp only [Act.put, List.setIfInBounds_toArray, List.set_cons_zero, List.set_cons_succ]
          refine wpF_take 4 (v := ?_) hHeld (by simp only [List.getElem?_toArray, List.getElem?_cons_succ, List.getElem?_cons_zero]; exact rfl) (by kernel_rfl) (by exact fun _ _ _ h => h) (by rfl) ?_ ?_
          rotate_left
          · (intro w hSw; (try dsimp only at hSw); go_simp; try with_reducible rfl)
          try simp only [Act.put, List.setIfInBounds_toArray, List.set_cons_zero, List.set_cons_succ]
          refine wpF_take 5 (v := ?_) hHeld (by simp only [List.getElem?_toArray, List.getElem?_cons_succ, List.getElem?_cons_zero]; exact rfl) (by kernel_rfl) (by exact fun _ _ _ h => h) (by rfl) ?_ ?_
          rotate_left
          · (intro w hSw; (try dsimp only at hSw); go_simp; try with_reducible rfl)
          try simp only [Act.put, List.setIfInBounds_toArray, List.set_cons_zero, List.set_cons_succ]
          refine wpF_take 6 (v := ?_) hHeld (by simp only [List.getElem?_toArray, List.getElem?_cons_succ, List.getElem?_cons_zero]; exact rfl) (by kernel_rfl) (by exact fun _ _ _ h => h) (by rfl) ?_ ?_
          rotate_left
          · (intro w hSw; (try dsimp only at hSw); go_simp; try with_reducible rfl)
          try simp only [Act.put, List.setIfInBounds_toArray, List.set_cons_zero, List.set_cons_succ]
          refine wpF_take 7 (v := ?_) hHeld (by simp only [List.getElem?_toArray, List.getElem?_cons_succ, List.getElem?_cons_zero]; exact rfl) (by kernel_rfl) (by exact fun _ _ _ h => h) (by rfl) ?_ ?_
          rotate_left
          · (intro w hSw; (try dsimp only at hSw); go_simp; try with_reducible rfl)
          try simp only [Act.put, List.setIfInBounds_toArray, List.set_cons_zero, List.set_cons_succ]
          refine wpF_take 8 (v := ?_) hHeld (by simp only [List.getElem?_toArray, List.getElem?_cons_succ, List.getElem?_cons_zero]; exact rfl) (by kernel_rfl) (by exact fun _ _ _ h => h) (by rfl) ?_ ?_
          rotate_left
          · (intro w hSw; (try dsimp only at hSw); go_simp; try with_reducible rfl)
          try simp only [Act.put, List.setIfInBounds_toArray, List.set_cons_zero, List.set_cons_succ]
          refine wpF_take 9 (v := ?_) hHeld (by simp only [List.getElem?_toArray, List.getElem?_cons_succ, List.getElem?_cons_zero]; exact rfl) (by kernel_rfl) (by exact fun _ _ _ h => h) (by rfl) ?_ ?_
          rotate_left
          · (intro w hSw; (try dsimp only at hSw); go_simp; try with_reducible rfl)
          try simp only [Act.put, List.setIfInBounds_toArray, List.set_cons_zero, List.set_cons_succ]
          refine wpF_done (by kernel_rfl) ?_
          go_wp2_with (at_builtin; refine stp ?_)
          unfold Stp
          obtain ⟨xs, hxs, hsn⟩ := hrow'.out.more
          have h8 := hHeld.1
          refine wpl_append (m := 1) (news := [.slice A5 q.length c5]) rfl (.tmp 62) (.tmp 64) rfl et22 rfl rfl (((h8.alloc _).pick 3 rfl)) hxs
            ((h8.lit (E := 27) (size := 1) #[.slice A5 q.length c5] 1 (by simp [maxLen]) rfl).rs (SO :: [(wk.heap.size, .cells (u8s (ofB z)).toArray 95 (0, 0))] :: S5 :: SI :: L) |>.mono mem_to2) (by intro u hu; simp at hu; subst hu; rfl) (by omega) (by omega) ?_
          intro A6 c6 w6 S6 h6 o6
          have hrow6 := Lib.hid (hsn _ _ q S5 S6 o5'.out (by have := hql'.out; omega) o6)
          have h6' := Lib.hid (show H W w6 (S6 :: (SI ++ S5) :: L) from (show H W w6 (S6 :: S5 :: SI :: L) from (show H W w6 (S6 :: _ :: _ :: S5 :: SI :: L) from h6).drop1.drop1).re (by intro c hc h0; simp only [List.flatten_cons, hc]; omega))
          clear h6 o6 hsn hxs o5' hrow' h8 hHeld h3'
          go_wp2_with fail
          have hql2 := hql'.out
          refine ⟨⟨ls ++ [q], at' + 12 + q.length, S6, SI ++ S5, hat'.out.step hst'.out, by rw [hql2]; exact congrArg _ (by omega), h6'.out, ?_⟩, by simp [intOf]; omega⟩
          have := hrow6.out
          simpa using this
        · have hst : stepP c ls.length at' = none := by rw [hstep'.out, if_neg he]
          have hst' := Lib.hid hst
          have hbe : (s == ofB z) = false := by simpa using fun h => he h.symm
          clear hst he
          go_wp2_with fail
          refine wpF_start (S := (fun w' => H W w' ([(wk.heap.size, .cells (u8s (ofB z)).toArray 95 (0, 0))] :: S5 :: SO :: SI :: L) ∧ (convert 27 9 (.slice B2 s.length c2)).run Try.prog w' = .ok (.string (bstr s)) w' ∧ (convert 27 9 (.slice (some ⟨wk.heap.size, 0, none⟩) 8 8)).run Try.prog w' = .ok (.string (bstr (ofB z))) w')) (fins := []) (by kernel_rfl) ?_ (fun hHeld => ?_)
          · exact ⟨h3'.out.drew, RL.conv h3'.out.drew ((((hsq'.out.cons _).cons _).cons _).cons _), RL.conv h3'.out.drew (rl_arr wk.heap.size z _)⟩
          refine wpF_take 0 (v := ?_) hHeld (by simp only [List.getElem?_toArray, List.getElem?_cons_zero]; exact rfl) (by kernel_rfl) (by exact fun _ _ _ h => h) (by rfl) ?_ ?_
          rotate_left
          · (intro w hSw; (try dsimp only at hSw); go_simp; try with_reducible rfl)
          try simp only [Act.put, List.setIfInBounds_toArray, List.set_cons_zero, List.set_cons_succ]
          refine wpF_take 1 (v := ?_) hHeld (by simp only [List.getElem?_toArray, List.getElem?_cons_succ, List.getElem?_cons_zero]; exact rfl) (by kernel_rfl) (by exact fun _ _ _ h => h) (by rfl) ?_ ?_
          rotate_left
          · (intro w hSw; (try dsimp only at hSw); go_simp; try with_reducible rfl)
          try simp only [Act.put, List.setIfInBounds_toArray, List.set_cons_zero, List.set_cons_succ]
          refine wpF_take 2 (v := ?_) hHeld (by simp only [List.getElem?_toArray, List.getElem?_cons_succ, List.getElem?_cons_zero]; exact rfl) (by kernel_rfl) (by exact fun _ _ _ h => h) (by rfl) ?_ ?_
          rotate_left
          · (intro w hSw; (try dsimp only at hSw); go_simp; try with_reducible rfl)
          try simp only [Act.put, List.setIfInBounds_toArray, List.set_cons_zero, List.set_cons_succ]
          refine wpF_take 3 (v := ?_) hHeld (by simp only [List.getElem?_toArray, List.getElem?_cons_succ, List.getElem?_cons_zero]; exact rfl) (by kernel_rfl) (by exact fun _ _ _ h => h) (by rfl) ?_ ?_
          rotate_left
          · (intro w hSw; (try dsimp only at hSw); go_simp; try with_reducible rfl)
          try simp only [Act.put, List.setIfInBounds_toArray, List.set_cons_zero, List.set_cons_succ]
          refine wpF_take 4 (v := ?_) hHeld (by simp only [List.getElem?_toArray, List.getElem?_cons_succ, List.getElem?_cons_zero]; exact rfl) (by kernel_rfl) (by exact fun _ _ _ h => h) (by rfl) ?_ ?_
          rotate_left
          · (intro w hSw; (try dsimp only at hSw); go_simp; try with_reducible rfl)
          try simp only [Act.put, List.setIfInBounds_toArray, List.set_cons_zero, List.set_cons_succ]
          refine wpF_take 5 (v := ?_) hHeld (by simp only [List.getElem?_toArray, List.getElem?_cons_succ, List.getElem?_cons_zero]; exact rfl) (by kernel_rfl) (by exact fun _ _ _ h => h) (by rfl) ?_ ?_
          rotate_left
          · (intro w hSw; (try dsimp only at hSw); go_simp; try with_reducible rfl)
          try simp only [Act.put, List.setIfInBounds_toArray, List.set_cons_zero, List.set_cons_succ]
          refine wpF_take 6 (v := ?_) hHeld (by simp only [List.getElem?_toArray, List.getElem?_cons_succ, List.getElem?_cons_zero]; exact rfl) (by kernel_rfl) (by exact fun _ _ _ h => h) (by rfl) ?_ ?_
          rotate_left
          · (intro w hSw; (try dsimp only at hSw); go_simp; try with_reducible rfl)
          try simp only [Act.put, List.setIfInBounds_toArray, List.set_cons_zero, List.set_cons_succ]
          refine wpF_take 7 (v := ?_) hHeld (by simp only [List.getElem?_toArray, List.getElem?_cons_succ, List.getElem?_cons_zero]; exact rfl) (by kernel_rfl) (by exact fun _ _ _ h => h) (by rfl) ?_ ?_
          rotate_left
          · (intro w hSw; (try dsimp only at hSw); go_simp; try with_reducible rfl)
          try simp only [Act.put, List.setIfInBounds_toArray, List.set_cons_zero, List.set_cons_succ]
          refine wpF_take 8 (v := ?_) hHeld (by simp only [List.getElem?_toArray, List.getElem?_cons_succ, List.getElem?_cons_zero]; exact rfl) (by kernel_rfl) (by exact fun _ _ _ h => h) (by rfl) ?_ ?_
          rotate_left
          · (intro w hSw; (try dsimp only at hSw); go_simp; try with_reducible rfl)
          try simp only [Act.put, List.setIfInBounds_toArray, List.set_cons_zero, List.set_cons_succ]
          refine wpF_take 9 (v := ?_) hHeld (by simp only [List.getElem?_toArray, List.getElem?_cons_succ, List.getElem?_cons_zero]; exact rfl) (by kernel_rfl) (by exact fun _ _ _ h => h) (by rfl) ?_ ?_
          rotate_left
          · (intro w hSw; (try dsimp only at hSw); go_simp; try with_reducible rfl)
          try simp only [Act.put, List.setIfInBounds_toArray, List.set_cons_zero, List.set_cons_succ]
          refine wpF_done (by kernel_rfl) ?_
          go_wp2_with fail
          go_ret2
          rw [hat'.out.stop hst'.out]
          exact ⟨A1, c1, SO, SI, rfl, hHeld.1.drop.drop, hrow'.out⟩
      · have hst : stepP c ls.length at' = none := by
          unfold stepP
          rw [hla'.out, if_neg (fun hh => h5 ⟨hh.2.1, hh.2.2.1⟩)]
        have hst' := Lib.hid hst
        clear hst
        by_cases h6 : u.toNat ≤ 65536
        · have g1 : ¬ (65536 : Int) < (u.toNat : Int) := by omega
          have g2 : (c.length : Int) - (at' : Int) - 12 < (u.toNat : Int) := by omega
          go_wp2_with fail
          refine huint'.out.mono ?_
          rintro e w1 ⟨rfl, h1⟩
          have h1' := Lib.hid h1
          clear h1 huint'
          go_wp2_with fail
          go_ret2
          rw [hat'.out.stop hst'.out]
          exact ⟨A1, c1, SO, SI, rfl, h1'.out, hrow'.out⟩
        · have g1 : (65536 : Int) < (u.toNat : Int) := by omega
          go_wp2_with fail
          refine huint'.out.mono ?_
          rintro e w1 ⟨rfl, h1⟩
          have h1' := Lib.hid h1
          clear h1 huint'
          go_wp2_with fail
          go_ret2
          rw [hat'.out.stop hst'.out]
          exact ⟨A1, c1, SO, SI, rfl, h1'.out, hrow'.out⟩
    · have hst : stepP c ls.length at' = none := by
        unfold stepP
        rw [if_neg (fun hh => by omega)]
      have g0 : ¬ (12 : Int) ≤ (c.length : Int) - (at' : Int) := by omega
      have hst' := Lib.hid hst
      clear hst
      go_wp2_with fail
      go_ret2
      rw [hat'.out.stop hst'.out]
      exact ⟨A1, c1, SO, SI, rfl, hw'.out, hrow'.out⟩
end Go.Proofs.Ytfhoblchgeijkaa
