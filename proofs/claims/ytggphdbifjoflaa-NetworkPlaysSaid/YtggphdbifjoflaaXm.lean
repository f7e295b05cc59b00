import Derived.Test.YtggphdbifjoflaaXi
import Derived.Deep.DeepCutAuto
import Derived.Deep.CutBlock
namespace Go.Proofs.Ytggphdbifjoflaa
open Go.RowKit
variable {W w : World} {L : List Seg} {v : Value} {l : List UInt8} {b c : Nat} {N x y : Int} {ps qs : List Pcl}

/-- A call record that came in. -/
structure Cl where
  op : Int
  ix : Int
  ps : Int
  gr : Int
  wt : UInt8
  p : Pcl
  A : Option Addr
  c : Nat
def Cl.cells (k : Cl) : List Value := [.int .i64 k.op, .int .i64 k.ix, .int .i64 k.ps, .int .i64 k.gr, .int .u8 k.wt.toNat, .int .i64 k.p.f, .int .i64 k.p.t, .slice k.A k.p.d.length k.c]
structure ClRow (L : List Seg) (v : Value) (n : Nat) (cs : List Cl) : Prop where
  row : RS L 8 v n (cs.flatMap Cl.cells)
  len : cs.length = n
  rl : ∀ k ∈ cs, k.p.d.length ≤ 1000 → RL L (.slice k.A k.p.d.length k.c) k.p.d

theorem cl_get (cs : List Cl) (i : Nat) (hi : i < cs.length) (j : Nat) (hj : j < 8) : (cs.flatMap Cl.cells)[i * 8 + j]? = (cs[i].cells)[j]? := by
  induction cs generalizing i with
  | nil => simp at hi
  | cons r cs ih =>
    cases i with
    | zero =>
      simp only [List.flatMap_cons, Nat.zero_mul, Nat.zero_add, List.getElem_cons_zero]
      rw [List.getElem?_append_left (by simp [Cl.cells]; exact hj)]
    | succ i =>
      simp only [List.flatMap_cons, List.getElem_cons_succ]
      rw [List.getElem?_append_right (by simp [Cl.cells]; omega)]
      have : (i + 1) * 8 + j - (Cl.cells r).length = i * 8 + j := by simp [Cl.cells]; omega
      rw [this]
      exact ih i (by simpa using hi)

theorem ClRow.form {n : Nat} {cs : List Cl} (h : ClRow L v n cs) : ∃ A cap, v = .slice A n cap := h.row.form
theorem ClRow.addr {n cap : Nat} {A : Option Addr} {cs : List Cl} (h : ClRow L (.slice A n cap) n cs) (hn : 0 < n) : ∃ g o, A = some ⟨g, o, none⟩ := by
  rcases h.row.2 with ⟨h0, _⟩ | ⟨g, o, cap', cc, E', fr, hv, _⟩
  · omega
  · simp only [Value.slice.injEq] at hv
    exact ⟨g, o, hv.1⟩
theorem ClRow.cell {n cap g o : Nat} {cs : List Cl} (h : ClRow L (.slice (some ⟨g, o, none⟩) n cap) n cs) (hH : H W w L) (k : Nat) (hk : k < cs.length) (j : Nat) (hj : j < 8) {u : Value} (hu : (cs[k].cells)[j]? = some u) :
    w.cell? ⟨g, o + k * 8 + j, none⟩ = some u := by
  have := h.row.cell hH rfl (k * 8 + j) u (by rw [cl_get cs k hk j hj]; exact hu)
  have e : (⟨g, o, none⟩ : Addr).add (k * 8 + j) = ⟨g, o + k * 8 + j, none⟩ := by
    simp only [Addr.add]
    split
    · rename_i h; simp_all
    · rw [Nat.add_assoc]
  rw [e] at this
  exact this

theorem same_both (p : Pcl) {A A' : Option Addr} {n' c1 m' c2 : Nat} (h : Both W w L b c N ps qs) (h1 : RL L (.slice A n' c1) p.d) (h2 : RL L (.slice A' m' c2) p.d) :
    Calls Try.prog 17 #[.agg #[.int .i64 p.f, .int .i64 p.t, .slice A n' c1], .agg #[.int .i64 p.f, .int .i64 p.t, .slice A' m' c2]] w (PBool true fun w' => Both W w' L b c N ps qs) := by
  obtain ⟨pv, SP, rs, pv', SP', rs', h, g1, g2⟩ := h
  refine (same_any p.f p.t p.f p.t A A' n' c1 m' c2 p.d p.d h ((((((h1.cons _).cons _).cons _).cons _).cons _).cons _) ((((((h2.cons _).cons _).cons _).cons _).cons _).cons _)).mono ?_
  rintro e w' ⟨rfl, h3⟩
  exact ⟨by simp, pv, SP, rs, pv', SP', rs', h3, g1, g2⟩
theorem okN.take (h : okN N ps) (i : Int) : okN N (match atI ps i with | none => ps | some _ => ps.eraseIdx i.toNat) := by
  split
  · exact h
  · exact h.erase _

theorem same_refl (x y : Int) (d : List UInt8) {A A' : Option Addr} {n' c1 m' c2 : Nat} (h : H W w L) (h1 : RL L (.slice A n' c1) d) (h2 : RL L (.slice A' m' c2) d) :
    Calls Try.prog 17 #[.agg #[.int .i64 x, .int .i64 y, .slice A n' c1], .agg #[.int .i64 x, .int .i64 y, .slice A' m' c2]] w (PBool true fun w' => H W w' L) := by
  refine (same_any x y x y A A' n' c1 m' c2 d d h h1 h2).mono ?_
  rintro e w' ⟨rfl, h3⟩
  exact ⟨by simp, h3⟩

structure RowAt (W : World) (L M : List Seg) (b c : Nat) (N : Int) (ps qs : List Pcl) (k g cap cc : Nat) (A : Option Addr) (p : Pcl) (w' : World) : Prop where
  both : Both W w' L b c N ps qs
  c1 : w'.cell? ⟨c, 1, none⟩ = some (.slice (some ⟨g, 0, none⟩) qs.length cap)
  r0 : w'.cell? ⟨g, k * 3, none⟩ = some (.int .i64 p.f)
  r1 : w'.cell? ⟨g, k * 3 + 1, none⟩ = some (.int .i64 p.t)
  r2 : w'.cell? ⟨g, k * 3 + 2, none⟩ = some (.slice A p.d.length cc)

/-- A row of the reference's network, as the law reads it: what stays while nothing of both networks is written. -/
theorem Both.row (h : Both W w L b c N ps qs) (k : Nat) (hk : k < qs.length) : ∃ (M : List Seg) (g cap cc : Nat) (A : Option Addr),
    (∀ w', H W w' M → RowAt W L M b c N ps qs k g cap cc A qs[k] w') ∧ H W w M ∧ RL M (.slice A (qs[k]).d.length cc) (qs[k]).d ∧ (∀ v d, RL L v d → RL M v d) := by
  obtain ⟨pv, SP, rs, pv', SP', rs', hH, g1, g2⟩ := h
  have hlen : rs'.length = qs.length := by rw [← g2.map, List.length_map]
  have hk' : k < rs'.length := by omega
  have hp : (rs'[k]).p = qs[k] := by
    have : (rs'.map PR.p)[k]? = qs[k]? := by rw [g2.map]
    simpa [hk, hk'] using this
  obtain ⟨A, cc, hv⟩ := (g2.each _ (List.getElem_mem hk')).1.form
  have hm : ∀ p ∈ SP', p ∈ (hdr b N pv :: SP :: datas rs :: rhdr c N pv' :: SP' :: datas rs' :: L).flatten := fun p hp => by
    simp only [List.flatten_cons, List.mem_append]; exact .inr (.inr (.inr (.inr (.inl hp))))
  obtain ⟨g, cap, hpv, _⟩ := g2.cells hH hm k hk'
  refine ⟨_, g, cap, cc, A, fun w' h' => ?_, hH, ?_, fun v d hr => (((((hr.cons _).cons _).cons _).cons _).cons _).cons _⟩
  · obtain ⟨g', cap', hpv', _, c0, c1, c2⟩ := g2.cells h' hm k hk'
    obtain ⟨rfl, rfl⟩ : g' = g ∧ cap' = cap := by rw [hpv] at hpv'; simp at hpv'; exact ⟨hpv'.1.symm, hpv'.2.symm⟩
    refine ⟨⟨pv, SP, rs, pv', SP', rs', h', g1, g2⟩, ?_, by rw [← hp]; exact c0, by rw [← hp]; exact c1, by rw [← hp, c2, hv]⟩
    rw [← hlen, ← hpv]
    exact h'.cellAt 3 0 1 rfl rfl rfl
  · have hr := g2.rl k hk' L
    rw [hv, hp] at hr
    exact ((((hr.cons _).cons _).cons _).cons _).cons _

set_option maxRecDepth 100000 in
set_option maxHeartbeats 3200000 in
theorem plays_any (p0 i0 : Int) {n : Nat} {cs : List Cl} (h : H W w L) (hr : ClRow L v n cs) :
    Calls Try.prog 4 #[.int .i64 p0, v, .int .i64 i0] w (PTrue W L) := by
  obtain ⟨A, cap, rfl⟩ := hr.form
  have h' := Lib.hid h
  have hr' := Lib.hid hr
  clear h hr
  go_enter Try.func4, Try.ntmps4
  go_wp2_with (go_at_call 7; refine (new_any p0 h'.out).mono ?_; rintro e w1 ⟨b, rfl, h1⟩; have h1' := Lib.hid h1; clear h1)
  obtain ⟨A0, c0, SP0, rs0, g1, g2, g3⟩ := h1'.out.open
  refine (rnew_any p0 g1).mono ?_
  rintro e w2 ⟨c, rfl, h2⟩
  have hB := Lib.hid (Both.ofRef g2 h2)
  clear h2 g1 g2 g3
  have hN := clampN_le p0
  generalize clampN p0 = N at *
  go_upto_block 0 with fail
  go_cut [] (fun w' => ∃ ps, Both W w' L b c N ps ps ∧ okN N ps)
  case first =>
    go_wp2_with fail
    go_loopw [32] (fun i wr => ∃ (k : Nat) (ps : List Pcl), i = .int .i64 k ∧ k ≤ n ∧ Both W wr L b c N ps ps ∧ okN N ps) (fun i _ => n - (intOf i).toNat)
    case atStart => exact ⟨0, [], rfl, Nat.zero_le _, hB.out, fun p hp => by cases hp⟩
    case round =>
      obtain ⟨k, ps, rfl, hk, hb, hok⟩ := hrel
      have hb' := Lib.hid hb
      have hok' := Lib.hid hok
      clear hb hok
      by_cases hlt : k < n
      · obtain ⟨g, o, rfl⟩ := hr'.out.addr (by omega)
        have hkc : k < cs.length := by rw [hr'.out.len]; exact hlt
        have hki : (k : Int) < (n : Int) := by omega
        have q0 := hr'.out.cell hb'.out.h k hkc 0 (by decide) rfl
        have q1 := hr'.out.cell hb'.out.h k hkc 1 (by decide) rfl
        have q2 := hr'.out.cell hb'.out.h k hkc 2 (by decide) rfl
        have q3 := hr'.out.cell hb'.out.h k hkc 3 (by decide) rfl
        have q4 := hr'.out.cell hb'.out.h k hkc 4 (by decide) rfl
        have q5 := hr'.out.cell hb'.out.h k hkc 5 (by decide) rfl
        have q6 := hr'.out.cell hb'.out.h k hkc 6 (by decide) rfl
        have q7 := hr'.out.cell hb'.out.h k hkc 7 (by decide) rfl
        have hrl := Lib.hid (hr'.out.rl _ (List.getElem_mem hkc))
        generalize cs[k] = C at *
        rw [Nat.add_zero] at q0
        by_cases c80 : (80 : Int) ≤ (k : Int)
        · have d1 : decide ((80 : Int) ≤ (k : Int)) = true := by simpa using c80
          go_wp2_with fail
          go_meet
          exact ⟨ps, (hb'.out.alloc _).drop, hok'.out⟩
        · have d1 : decide ((80 : Int) ≤ (k : Int)) = false := by simpa using c80
          by_cases c1000 : (1000 : Int) < (C.p.d.length : Int)
          · have d2 : decide ((1000 : Int) < (C.p.d.length : Int)) = true := by simpa using c1000
            go_wp2_with fail
            go_meet
            exact ⟨ps, (hb'.out.alloc _).drop, hok'.out⟩
          · have d2 : decide ((1000 : Int) < (C.p.d.length : Int)) = false := by simpa using c1000
            go_upto_block 2 with fail
            have hx0 := hb'.out.alloc (.cells C.cells.toArray 41)
            have hx := Lib.hid hx0
            have hrx := Lib.hid ((hrl.out (by omega)).cons [(wr.heap.size, .cells C.cells.toArray 41 (0, 0))])
            have y0 : (wr.alloc (.cells C.cells.toArray 41)).cell? ⟨wr.heap.size, 0, none⟩ = some (.int .i64 C.op) := hx0.h.cellAt 0 0 0 rfl rfl rfl
            have hxl := hx0.h.ltAt 0 0 rfl rfl
            clear hx0 hrl
            simp only [Cl.cells] at y0 hxl hx hrx
            go_cut [11] (fun t w' => t = .bool true ∧ ∃ ps, Both W w' L b c N ps ps ∧ okN N ps)
            case first =>
              by_cases o0 : C.op = 0
              · have z0 : (C.op == 0) = true := by simpa using o0
                clear o0
                go_wp2_with fail
--REGION 12
                refine wpF_start (S := (fun w' => w'.cell? ⟨wr.heap.size, 5, none⟩ = some (.int .i64 C.p.f) ∧ w'.cell? ⟨wr.heap.size, 6, none⟩ = some (.int .i64 C.p.t) ∧ w'.cell? ⟨wr.heap.size, 7, none⟩ = some (.slice C.A C.p.d.length C.c))) (fins := []) (by kernel_rfl) ?_ (fun hHeld => ?_)
                · exact ⟨hx.out.drew1.h.cellAt 0 0 5 rfl rfl rfl, hx.out.drew1.h.cellAt 0 0 6 rfl rfl rfl, hx.out.drew1.h.cellAt 0 0 7 rfl rfl rfl⟩
                refine wpF_take 0 (v := ?_) hHeld (by simp only [List.getElem?_toArray, List.getElem?_cons_zero]; exact rfl) (by kernel_rfl) (by exact fun _ _ _ h => h) (by rfl) ?_ ?_
                rotate_left
                · (intro w hSw; (try dsimp only at hSw); go_simp; try with_reducible rfl)
                try simp only [Act.put, List.setIfInBounds_toArray, List.set_cons_zero, List.set_cons_succ]
                refine wpF_take 1 (v := ?_) hHeld (by simp only [List.getElem?_toArray, List.getElem?_cons_succ, List.getElem?_cons_zero]; exact rfl) (by kernel_rfl) (by exact fun _ _ _ h => h) (by rfl) ?_ ?_
                rotate_left
                · (intro w hSw; (try dsimp only at hSw); go_simp; try with_reducible rfl)
                try simp only [Act.put, List.setIfInBounds_toArray, List.set_cons_zero, List.set_cons_succ]
                refine wpF_take 2 (v := ?_) hHeld (by simp only [List.getElem?_toArray, List.getElem?_cons_succ, List.getElem?_cons_zero]; exact rfl) (by kernel_rfl) (by exact fun _ _ _ h => h) (by rfl) ?_ ?_
                rotate_left
                · (intro w hSw; (try dsimp only at hSw); go_simp; try with_reducible rfl)
                try simp only [Act.put, List.setIfInBounds_toArray, List.set_cons_zero, List.set_cons_succ]
                refine wpF_take 4 (v := ?_) hHeld (by simp only [List.getElem?_toArray, List.getElem?_cons_succ, List.getElem?_cons_zero]; exact rfl) (by kernel_rfl) (by exact fun _ _ _ h => h) (by rfl) ?_ ?_
                rotate_left
                · (intro w hSw; (try dsimp only at hSw); go_simp; try with_reducible rfl)
                try simp only [Act.put, List.setIfInBounds_toArray, List.set_cons_zero, List.set_cons_succ]
                refine wpF_take 5 (v := ?_) hHeld (by simp only [List.getElem?_toArray, List.getElem?_cons_succ, List.getElem?_cons_zero]; exact rfl) (by kernel_rfl) (by exact fun _ _ _ h => h) (by rfl) ?_ ?_
                rotate_left
                · (intro w hSw; (try dsimp only at hSw); go_simp; try with_reducible rfl)
                try simp only [Act.put, List.setIfInBounds_toArray, List.set_cons_zero, List.set_cons_succ]
                refine wpF_take 6 (v := ?_) hHeld (by simp only [List.getElem?_toArray, List.getElem?_cons_succ, List.getElem?_cons_zero]; exact rfl) (by kernel_rfl) (by exact fun _ _ _ h => h) (by rfl) ?_ ?_
                rotate_left
                · (intro w hSw; (try dsimp only at hSw); go_simp; try with_reducible rfl)
                try simp only [Act.put, List.setIfInBounds_toArray, List.set_cons_zero, List.set_cons_succ]
                refine wpF_take 7 (v := ?_) hHeld (by simp only [List.getElem?_toArray, List.getElem?_cons_succ, List.getElem?_cons_zero]; exact rfl) (by kernel_rfl) (by exact fun _ _ _ h => h) (by rfl) ?_ ?_
                rotate_left
                · (intro w hSw; (try dsimp only at hSw); go_simp; try with_reducible rfl)
                try simp only [Act.put, List.setIfInBounds_toArray, List.set_cons_zero, List.set_cons_succ]
                refine wpF_take 8 (v := ?_) hHeld (by simp only [List.getElem?_toArray, List.getElem?_cons_succ, List.getElem?_cons_zero]; exact rfl) (by kernel_rfl) (by exact fun _ _ _ h => h) (by rfl) ?_ ?_
                rotate_left
                · (intro w hSw; (try dsimp only at hSw); go_simp; try with_reducible rfl)
                try simp only [Act.put, List.setIfInBounds_toArray, List.set_cons_zero, List.set_cons_succ]
                refine wpF_take 9 (v := ?_) hHeld (by simp only [List.getElem?_toArray, List.getElem?_cons_succ, List.getElem?_cons_zero]; exact rfl) (by kernel_rfl) (by exact fun _ _ _ h => h) (by rfl) ?_ ?_
                rotate_left
                · (intro w hSw; (try dsimp only at hSw); go_simp; try with_reducible rfl)
                try simp only [Act.put, List.setIfInBounds_toArray, List.set_cons_zero, List.set_cons_succ]
                refine wpF_take 10 (v := ?_) hHeld (by simp only [List.getElem?_toArray, List.getElem?_cons_succ, List.getElem?_cons_zero]; exact rfl) (by kernel_rfl) (by exact fun _ _ _ h => h) (by rfl) ?_ ?_
                rotate_left
                · (intro w hSw; (try dsimp only at hSw); go_simp; try with_reducible rfl)
                try simp only [Act.put, List.setIfInBounds_toArray, List.set_cons_zero, List.set_cons_succ]
                refine wpF_take 11 (v := ?_) hHeld (by simp only [List.getElem?_toArray, List.getElem?_cons_succ, List.getElem?_cons_zero]; exact rfl) (by kernel_rfl) (by exact fun _ _ _ h => h) (by rfl) ?_ ?_
                rotate_left
                · (intro w hSw; (try dsimp only at hSw); go_simp; try with_reducible rfl)
                try simp only [Act.put, List.setIfInBounds_toArray, List.set_cons_zero, List.set_cons_succ]
                refine wpF_take 12 (v := ?_) hHeld (by simp only [List.getElem?_toArray, List.getElem?_cons_succ, List.getElem?_cons_zero]; exact rfl) (by kernel_rfl) (by exact fun _ _ _ h => h) (by rfl) ?_ ?_
                rotate_left
                · (intro w hSw; (try dsimp only at hSw); go_simp; try with_reducible rfl)
                try simp only [Act.put, List.setIfInBounds_toArray, List.set_cons_zero, List.set_cons_succ]
                refine wpF_take 13 (v := ?_) hHeld (by simp only [List.getElem?_toArray, List.getElem?_cons_succ, List.getElem?_cons_zero]; exact rfl) (by kernel_rfl) (by exact fun _ _ _ h => h) (by rfl) ?_ ?_
                rotate_left
                · (intro w hSw; (try dsimp only at hSw); go_simp; try with_reducible rfl)
                try simp only [Act.put, List.setIfInBounds_toArray, List.set_cons_zero, List.set_cons_succ]
                refine wpF_take 14 (v := ?_) hHeld (by simp only [List.getElem?_toArray, List.getElem?_cons_succ, List.getElem?_cons_zero]; exact rfl) (by kernel_rfl) (by exact fun _ _ _ h => h) (by rfl) ?_ ?_
                rotate_left
                · (intro w hSw; (try dsimp only at hSw); go_simp; try with_reducible rfl)
                try simp only [Act.put, List.setIfInBounds_toArray, List.set_cons_zero, List.set_cons_succ]
                refine wpF_one 3 (by simp only [List.getElem?_toArray, List.getElem?_cons_succ, List.getElem?_cons_zero]; exact rfl) (by kernel_rfl) (fun K hK => ?_)
                go_simp
                refine (send1 C.p hx.out.drew1 hrx.out).mono ?_
                rintro e w3 ⟨rfl, h3⟩
                refine hK _ _ ?_ (fun hHeld => ?_)
                · exact ⟨h3.h.cellAt 0 0 5 rfl rfl rfl, h3.h.cellAt 0 0 6 rfl rfl rfl, h3.h.cellAt 0 0 7 rfl rfl rfl⟩
                clear hK K
                try simp only [Act.put, List.setIfInBounds_toArray, List.set_cons_zero, List.set_cons_succ]
                refine wpF_one 15 (by simp only [List.getElem?_toArray, List.getElem?_cons_succ, List.getElem?_cons_zero]; exact rfl) (by kernel_rfl) (fun K hK => ?_)
                go_simp
                refine (send2 C.p h3 hrx.out).mono ?_
                rintro e w4 ⟨rfl, h4⟩
                refine hK _ _ ?_ (fun hHeld => ?_)
                · exact ⟨h4.h.cellAt 0 0 5 rfl rfl rfl, h4.h.cellAt 0 0 6 rfl rfl rfl, h4.h.cellAt 0 0 7 rfl rfl rfl⟩
                clear hK K
                try simp only [Act.put, List.setIfInBounds_toArray, List.set_cons_zero, List.set_cons_succ]
                refine wpF_take 16 (v := ?_) hHeld (by simp only [List.getElem?_toArray, List.getElem?_cons_succ, List.getElem?_cons_zero]; exact rfl) (by kernel_rfl) (by exact fun _ _ _ h => h) (by rfl) ?_ ?_
                rotate_left
                · (intro w hSw; (try dsimp only at hSw); go_simp; try with_reducible rfl)
                try simp only [Act.put, List.setIfInBounds_toArray, List.set_cons_zero, List.set_cons_succ]
                refine wpF_take 17 (v := ?_) hHeld (by simp only [List.getElem?_toArray, List.getElem?_cons_succ, List.getElem?_cons_zero]; exact rfl) (by kernel_rfl) (by exact fun _ _ _ h => h) (by rfl) ?_ ?_
                rotate_left
                · (intro w hSw; (try dsimp only at hSw); go_simp; try with_reducible rfl)
                try simp only [Act.put, List.setIfInBounds_toArray, List.set_cons_zero, List.set_cons_succ]
                refine wpF_done (by kernel_rfl) ?_
--END 12
                go_wp2_with fail
                go_meet
                exact ⟨rfl, _, h4.drop, hok'.out.send _⟩
              · have z0 : (C.op == 0) = false := by simpa using o0
                clear o0
                by_cases o1 : C.op = 1
                · have z1 : (C.op == 1) = true := by simpa using o1
                  clear o1
                  have y1 := hx.out.h.cellAt 0 0 1 rfl rfl rfl
                  go_wp2_with (first
                    | (go_at_call 12; refine (take1b C.ix hx.out).mono ?_; rintro e w3 ⟨p, t, A3, c3, S3, rfl, r3, h3, ht3, hp3⟩
                       have y3 : w3.cell? ⟨wr.heap.size, 1, none⟩ = some (.int .i64 C.ix) := h3.h.cellAt 1 0 1 rfl rfl rfl
                       have l3 := h3.h.ltAt 1 0 rfl rfl
                       have h3' := Lib.hid (h3.alloc (.cells #[.int .i64 p.f, .int .i64 p.t, .slice A3 p.d.length c3] 30))
                       have r3' := Lib.hid r3
                       have t3' := Lib.hid ht3
                       have p3' := Lib.hid hp3
                       clear r3 h3 ht3 hp3)
                    | (go_at_call 16; refine (take2b C.ix h3'.out).mono ?_; rintro e w4 ⟨p2, t2, A4, c4, S4, rfl, r4, h4, ht4, hp4⟩
                       obtain rfl : t = t2 := t3'.out.trans ht4.symm
                       obtain rfl : p = p2 := p3'.out.trans hp4.symm
                       have j0 : w4.cell? ⟨w3.heap.size, 0, none⟩ = some (.int .i64 p.f) := h4.h.cellAt 1 0 0 rfl rfl rfl
                       have j1 : w4.cell? ⟨w3.heap.size, 1, none⟩ = some (.int .i64 p.t) := h4.h.cellAt 1 0 1 rfl rfl rfl
                       have j2 : w4.cell? ⟨w3.heap.size, 2, none⟩ = some (.slice A3 p.d.length c3) := h4.h.cellAt 1 0 2 rfl rfl rfl
                       have l4 := h4.h.ltAt 1 0 rfl rfl
                       have h4' := Lib.hid (h4.alloc (.cells #[.int .i64 p.f, .int .i64 p.t, .slice A4 p.d.length c4] 43))
                       have r4' := Lib.hid r4
                       clear r4 h4 ht4 hp4)
                    | (go_at_call 17; refine (same_both p h4'.out (((r3'.out.cons _).cons _).cons _) (r4'.out.cons _)).mono ?_; rintro e w5 ⟨rfl, h5⟩))
                  go_meet
                  exact ⟨rfl, _, h5.drop.drop.drop.drop.drop, hok'.out.take _⟩
                · have z1 : (C.op == 1) = false := by simpa using o1
                  clear o1
                  by_cases o2 : C.op = 2
                  · have z2 : (C.op == 2) = true := by simpa using o2
                    clear o2
                    go_wp2_with fail
--REGION 18
                    refine wpF_start (S := (fun w' => w'.cell? ⟨wr.heap.size, 1, none⟩ = some (.int .i64 C.ix))) (fins := []) (by kernel_rfl) ?_ (fun hHeld => ?_)
                    · exact hx.out.drew1.h.cellAt 0 0 1 rfl rfl rfl
                    refine wpF_take 0 (v := ?_) hHeld (by simp only [List.getElem?_toArray, List.getElem?_cons_zero]; exact rfl) (by kernel_rfl) (by exact fun _ _ _ h => h) (by rfl) ?_ ?_
                    rotate_left
                    · (intro w hSw; (try dsimp only at hSw); go_simp; try with_reducible rfl)
                    try simp only [Act.put, List.setIfInBounds_toArray, List.set_cons_zero, List.set_cons_succ]
                    refine wpF_take 1 (v := ?_) hHeld (by simp only [List.getElem?_toArray, List.getElem?_cons_succ, List.getElem?_cons_zero]; exact rfl) (by kernel_rfl) (by exact fun _ _ _ h => h) (by rfl) ?_ ?_
                    rotate_left
                    · (intro w hSw; (try dsimp only at hSw); go_simp; try with_reducible rfl)
                    try simp only [Act.put, List.setIfInBounds_toArray, List.set_cons_zero, List.set_cons_succ]
                    refine wpF_take 2 (v := ?_) hHeld (by simp only [List.getElem?_toArray, List.getElem?_cons_succ, List.getElem?_cons_zero]; exact rfl) (by kernel_rfl) (by exact fun _ _ _ h => h) (by rfl) ?_ ?_
                    rotate_left
                    · (intro w hSw; (try dsimp only at hSw); go_simp; try with_reducible rfl)
                    try simp only [Act.put, List.setIfInBounds_toArray, List.set_cons_zero, List.set_cons_succ]
                    refine wpF_take 4 (v := ?_) hHeld (by simp only [List.getElem?_toArray, List.getElem?_cons_succ, List.getElem?_cons_zero]; exact rfl) (by kernel_rfl) (by exact fun _ _ _ h => h) (by rfl) ?_ ?_
                    rotate_left
                    · (intro w hSw; (try dsimp only at hSw); go_simp; try with_reducible rfl)
                    try simp only [Act.put, List.setIfInBounds_toArray, List.set_cons_zero, List.set_cons_succ]
                    refine wpF_take 5 (v := ?_) hHeld (by simp only [List.getElem?_toArray, List.getElem?_cons_succ, List.getElem?_cons_zero]; exact rfl) (by kernel_rfl) (by exact fun _ _ _ h => h) (by rfl) ?_ ?_
                    rotate_left
                    · (intro w hSw; (try dsimp only at hSw); go_simp; try with_reducible rfl)
                    try simp only [Act.put, List.setIfInBounds_toArray, List.set_cons_zero, List.set_cons_succ]
                    refine wpF_take 6 (v := ?_) hHeld (by simp only [List.getElem?_toArray, List.getElem?_cons_succ, List.getElem?_cons_zero]; exact rfl) (by kernel_rfl) (by exact fun _ _ _ h => h) (by rfl) ?_ ?_
                    rotate_left
                    · (intro w hSw; (try dsimp only at hSw); go_simp; try with_reducible rfl)
                    try simp only [Act.put, List.setIfInBounds_toArray, List.set_cons_zero, List.set_cons_succ]
                    refine wpF_one 3 (by simp only [List.getElem?_toArray, List.getElem?_cons_succ, List.getElem?_cons_zero]; exact rfl) (by kernel_rfl) (fun K hK => ?_)
                    go_simp
                    refine (dup1 C.ix hx.out.drew1).mono ?_
                    rintro e w3 ⟨rfl, h3⟩
                    refine hK _ _ ?_ (fun hHeld => ?_)
                    · exact h3.h.cellAt 0 0 1 rfl rfl rfl
                    clear hK K
                    try simp only [Act.put, List.setIfInBounds_toArray, List.set_cons_zero, List.set_cons_succ]
                    refine wpF_one 7 (by simp only [List.getElem?_toArray, List.getElem?_cons_succ, List.getElem?_cons_zero]; exact rfl) (by kernel_rfl) (fun K hK => ?_)
                    go_simp
                    refine (dup2 C.ix h3 hok'.out).mono ?_
                    rintro e w4 ⟨rfl, h4⟩
                    refine hK _ _ ?_ (fun hHeld => ?_)
                    · exact h4.h.cellAt 0 0 1 rfl rfl rfl
                    clear hK K
                    try simp only [Act.put, List.setIfInBounds_toArray, List.set_cons_zero, List.set_cons_succ]
                    refine wpF_take 8 (v := ?_) hHeld (by simp only [List.getElem?_toArray, List.getElem?_cons_succ, List.getElem?_cons_zero]; exact rfl) (by kernel_rfl) (by exact fun _ _ _ h => h) (by rfl) ?_ ?_
                    rotate_left
                    · (intro w hSw; (try dsimp only at hSw); go_simp; try with_reducible rfl)
                    try simp only [Act.put, List.setIfInBounds_toArray, List.set_cons_zero, List.set_cons_succ]
                    refine wpF_take 9 (v := ?_) hHeld (by simp only [List.getElem?_toArray, List.getElem?_cons_succ, List.getElem?_cons_zero]; exact rfl) (by kernel_rfl) (by exact fun _ _ _ h => h) (by rfl) ?_ ?_
                    rotate_left
                    · (intro w hSw; (try dsimp only at hSw); go_simp; try with_reducible rfl)
                    try simp only [Act.put, List.setIfInBounds_toArray, List.set_cons_zero, List.set_cons_succ]
                    refine wpF_done (by kernel_rfl) ?_
--END 18
                    go_wp2_with fail
                    go_meet
                    exact ⟨rfl, _, h4.drop, hok'.out.dup _⟩
                  · have z2 : (C.op == 2) = false := by simpa using o2
                    clear o2
                    by_cases o3 : C.op = 3
                    · have z3 : (C.op == 3) = true := by simpa using o3
                      clear o3
                      go_wp2_with fail
--REGION 20
                      refine wpF_start (S := (fun w' => w'.cell? ⟨wr.heap.size, 1, none⟩ = some (.int .i64 C.ix) ∧ w'.cell? ⟨wr.heap.size, 2, none⟩ = some (.int .i64 C.ps) ∧ w'.cell? ⟨wr.heap.size, 4, none⟩ = some (.int .u8 C.wt.toNat))) (fins := []) (by kernel_rfl) ?_ (fun hHeld => ?_)
                      · exact ⟨hx.out.drew1.h.cellAt 0 0 1 rfl rfl rfl, hx.out.drew1.h.cellAt 0 0 2 rfl rfl rfl, hx.out.drew1.h.cellAt 0 0 4 rfl rfl rfl⟩
                      refine wpF_take 0 (v := ?_) hHeld (by simp only [List.getElem?_toArray, List.getElem?_cons_zero]; exact rfl) (by kernel_rfl) (by exact fun _ _ _ h => h) (by rfl) ?_ ?_
                      rotate_left
                      · (intro w hSw; (try dsimp only at hSw); go_simp; try with_reducible rfl)
                      try simp only [Act.put, List.setIfInBounds_toArray, List.set_cons_zero, List.set_cons_succ]
                      refine wpF_take 1 (v := ?_) hHeld (by simp only [List.getElem?_toArray, List.getElem?_cons_succ, List.getElem?_cons_zero]; exact rfl) (by kernel_rfl) (by exact fun _ _ _ h => h) (by rfl) ?_ ?_
                      rotate_left
                      · (intro w hSw; (try dsimp only at hSw); go_simp; try with_reducible rfl)
                      try simp only [Act.put, List.setIfInBounds_toArray, List.set_cons_zero, List.set_cons_succ]
                      refine wpF_take 2 (v := ?_) hHeld (by simp only [List.getElem?_toArray, List.getElem?_cons_succ, List.getElem?_cons_zero]; exact rfl) (by kernel_rfl) (by exact fun _ _ _ h => h) (by rfl) ?_ ?_
                      rotate_left
                      · (intro w hSw; (try dsimp only at hSw); go_simp; try with_reducible rfl)
                      try simp only [Act.put, List.setIfInBounds_toArray, List.set_cons_zero, List.set_cons_succ]
                      refine wpF_take 3 (v := ?_) hHeld (by simp only [List.getElem?_toArray, List.getElem?_cons_succ, List.getElem?_cons_zero]; exact rfl) (by kernel_rfl) (by exact fun _ _ _ h => h) (by rfl) ?_ ?_
                      rotate_left
                      · (intro w hSw; (try dsimp only at hSw); go_simp; try with_reducible rfl)
                      try simp only [Act.put, List.setIfInBounds_toArray, List.set_cons_zero, List.set_cons_succ]
                      refine wpF_take 4 (v := ?_) hHeld (by simp only [List.getElem?_toArray, List.getElem?_cons_succ, List.getElem?_cons_zero]; exact rfl) (by kernel_rfl) (by exact fun _ _ _ h => h) (by rfl) ?_ ?_
                      rotate_left
                      · (intro w hSw; (try dsimp only at hSw); go_simp; try with_reducible rfl)
                      try simp only [Act.put, List.setIfInBounds_toArray, List.set_cons_zero, List.set_cons_succ]
                      refine wpF_take 5 (v := ?_) hHeld (by simp only [List.getElem?_toArray, List.getElem?_cons_succ, List.getElem?_cons_zero]; exact rfl) (by kernel_rfl) (by exact fun _ _ _ h => h) (by rfl) ?_ ?_
                      rotate_left
                      · (intro w hSw; (try dsimp only at hSw); go_simp; try with_reducible rfl)
                      try simp only [Act.put, List.setIfInBounds_toArray, List.set_cons_zero, List.set_cons_succ]
                      refine wpF_take 6 (v := ?_) hHeld (by simp only [List.getElem?_toArray, List.getElem?_cons_succ, List.getElem?_cons_zero]; exact rfl) (by kernel_rfl) (by exact fun _ _ _ h => h) (by rfl) ?_ ?_
                      rotate_left
                      · (intro w hSw; (try dsimp only at hSw); go_simp; try with_reducible rfl)
                      try simp only [Act.put, List.setIfInBounds_toArray, List.set_cons_zero, List.set_cons_succ]
                      refine wpF_take 8 (v := ?_) hHeld (by simp only [List.getElem?_toArray, List.getElem?_cons_succ, List.getElem?_cons_zero]; exact rfl) (by kernel_rfl) (by exact fun _ _ _ h => h) (by rfl) ?_ ?_
                      rotate_left
                      · (intro w hSw; (try dsimp only at hSw); go_simp; try with_reducible rfl)
                      try simp only [Act.put, List.setIfInBounds_toArray, List.set_cons_zero, List.set_cons_succ]
                      refine wpF_take 9 (v := ?_) hHeld (by simp only [List.getElem?_toArray, List.getElem?_cons_succ, List.getElem?_cons_zero]; exact rfl) (by kernel_rfl) (by exact fun _ _ _ h => h) (by rfl) ?_ ?_
                      rotate_left
                      · (intro w hSw; (try dsimp only at hSw); go_simp; try with_reducible rfl)
                      try simp only [Act.put, List.setIfInBounds_toArray, List.set_cons_zero, List.set_cons_succ]
                      refine wpF_take 10 (v := ?_) hHeld (by simp only [List.getElem?_toArray, List.getElem?_cons_succ, List.getElem?_cons_zero]; exact rfl) (by kernel_rfl) (by exact fun _ _ _ h => h) (by rfl) ?_ ?_
                      rotate_left
                      · (intro w hSw; (try dsimp only at hSw); go_simp; try with_reducible rfl)
                      try simp only [Act.put, List.setIfInBounds_toArray, List.set_cons_zero, List.set_cons_succ]
                      refine wpF_take 11 (v := ?_) hHeld (by simp only [List.getElem?_toArray, List.getElem?_cons_succ, List.getElem?_cons_zero]; exact rfl) (by kernel_rfl) (by exact fun _ _ _ h => h) (by rfl) ?_ ?_
                      rotate_left
                      · (intro w hSw; (try dsimp only at hSw); go_simp; try with_reducible rfl)
                      try simp only [Act.put, List.setIfInBounds_toArray, List.set_cons_zero, List.set_cons_succ]
                      refine wpF_take 12 (v := ?_) hHeld (by simp only [List.getElem?_toArray, List.getElem?_cons_succ, List.getElem?_cons_zero]; exact rfl) (by kernel_rfl) (by exact fun _ _ _ h => h) (by rfl) ?_ ?_
                      rotate_left
                      · (intro w hSw; (try dsimp only at hSw); go_simp; try with_reducible rfl)
                      try simp only [Act.put, List.setIfInBounds_toArray, List.set_cons_zero, List.set_cons_succ]
                      refine wpF_take 13 (v := ?_) hHeld (by simp only [List.getElem?_toArray, List.getElem?_cons_succ, List.getElem?_cons_zero]; exact rfl) (by kernel_rfl) (by exact fun _ _ _ h => h) (by rfl) ?_ ?_
                      rotate_left
                      · (intro w hSw; (try dsimp only at hSw); go_simp; try with_reducible rfl)
                      try simp only [Act.put, List.setIfInBounds_toArray, List.set_cons_zero, List.set_cons_succ]
                      refine wpF_take 14 (v := ?_) hHeld (by simp only [List.getElem?_toArray, List.getElem?_cons_succ, List.getElem?_cons_zero]; exact rfl) (by kernel_rfl) (by exact fun _ _ _ h => h) (by rfl) ?_ ?_
                      rotate_left
                      · (intro w hSw; (try dsimp only at hSw); go_simp; try with_reducible rfl)
                      try simp only [Act.put, List.setIfInBounds_toArray, List.set_cons_zero, List.set_cons_succ]
                      refine wpF_one 7 (by simp only [List.getElem?_toArray, List.getElem?_cons_succ, List.getElem?_cons_zero]; exact rfl) (by kernel_rfl) (fun K hK => ?_)
                      go_simp
                      refine (cor1 C.ix C.ps C.wt hx.out.drew1).mono ?_
                      rintro e w3 ⟨rfl, h3⟩
                      refine hK _ _ ?_ (fun hHeld => ?_)
                      · exact ⟨h3.h.cellAt 0 0 1 rfl rfl rfl, h3.h.cellAt 0 0 2 rfl rfl rfl, h3.h.cellAt 0 0 4 rfl rfl rfl⟩
                      clear hK K
                      try simp only [Act.put, List.setIfInBounds_toArray, List.set_cons_zero, List.set_cons_succ]
                      refine wpF_one 15 (by simp only [List.getElem?_toArray, List.getElem?_cons_succ, List.getElem?_cons_zero]; exact rfl) (by kernel_rfl) (fun K hK => ?_)
                      go_simp
                      refine (cor2 C.ix C.ps C.wt h3).mono ?_
                      rintro e w4 ⟨rfl, h4⟩
                      refine hK _ _ ?_ (fun hHeld => ?_)
                      · exact ⟨h4.h.cellAt 0 0 1 rfl rfl rfl, h4.h.cellAt 0 0 2 rfl rfl rfl, h4.h.cellAt 0 0 4 rfl rfl rfl⟩
                      clear hK K
                      try simp only [Act.put, List.setIfInBounds_toArray, List.set_cons_zero, List.set_cons_succ]
                      refine wpF_take 16 (v := ?_) hHeld (by simp only [List.getElem?_toArray, List.getElem?_cons_succ, List.getElem?_cons_zero]; exact rfl) (by kernel_rfl) (by exact fun _ _ _ h => h) (by rfl) ?_ ?_
                      rotate_left
                      · (intro w hSw; (try dsimp only at hSw); go_simp; try with_reducible rfl)
                      try simp only [Act.put, List.setIfInBounds_toArray, List.set_cons_zero, List.set_cons_succ]
                      refine wpF_take 17 (v := ?_) hHeld (by simp only [List.getElem?_toArray, List.getElem?_cons_succ, List.getElem?_cons_zero]; exact rfl) (by kernel_rfl) (by exact fun _ _ _ h => h) (by rfl) ?_ ?_
                      rotate_left
                      · (intro w hSw; (try dsimp only at hSw); go_simp; try with_reducible rfl)
                      try simp only [Act.put, List.setIfInBounds_toArray, List.set_cons_zero, List.set_cons_succ]
                      refine wpF_done (by kernel_rfl) ?_
--END 20
                      go_wp2_with fail
                      go_meet
                      exact ⟨rfl, _, h4.drop, hok'.out.cor _ _ _⟩
                    · have z3 : (C.op == 3) = false := by simpa using o3
                      clear o3
                      by_cases o4 : C.op = 4
                      · have z4 : (C.op == 4) = true := by simpa using o4
                        clear o4
                        go_wp2_with fail
--REGION 22
                        refine wpF_start (S := (fun w' => w'.cell? ⟨wr.heap.size, 3, none⟩ = some (.int .i64 C.gr))) (fins := []) (by kernel_rfl) ?_ (fun hHeld => ?_)
                        · exact hx.out.drew1.h.cellAt 0 0 3 rfl rfl rfl
                        refine wpF_take 0 (v := ?_) hHeld (by simp only [List.getElem?_toArray, List.getElem?_cons_zero]; exact rfl) (by kernel_rfl) (by exact fun _ _ _ h => h) (by rfl) ?_ ?_
                        rotate_left
                        · (intro w hSw; (try dsimp only at hSw); go_simp; try with_reducible rfl)
                        try simp only [Act.put, List.setIfInBounds_toArray, List.set_cons_zero, List.set_cons_succ]
                        refine wpF_take 1 (v := ?_) hHeld (by simp only [List.getElem?_toArray, List.getElem?_cons_succ, List.getElem?_cons_zero]; exact rfl) (by kernel_rfl) (by exact fun _ _ _ h => h) (by rfl) ?_ ?_
                        rotate_left
                        · (intro w hSw; (try dsimp only at hSw); go_simp; try with_reducible rfl)
                        try simp only [Act.put, List.setIfInBounds_toArray, List.set_cons_zero, List.set_cons_succ]
                        refine wpF_take 2 (v := ?_) hHeld (by simp only [List.getElem?_toArray, List.getElem?_cons_succ, List.getElem?_cons_zero]; exact rfl) (by kernel_rfl) (by exact fun _ _ _ h => h) (by rfl) ?_ ?_
                        rotate_left
                        · (intro w hSw; (try dsimp only at hSw); go_simp; try with_reducible rfl)
                        try simp only [Act.put, List.setIfInBounds_toArray, List.set_cons_zero, List.set_cons_succ]
                        refine wpF_take 4 (v := ?_) hHeld (by simp only [List.getElem?_toArray, List.getElem?_cons_succ, List.getElem?_cons_zero]; exact rfl) (by kernel_rfl) (by exact fun _ _ _ h => h) (by rfl) ?_ ?_
                        rotate_left
                        · (intro w hSw; (try dsimp only at hSw); go_simp; try with_reducible rfl)
                        try simp only [Act.put, List.setIfInBounds_toArray, List.set_cons_zero, List.set_cons_succ]
                        refine wpF_take 5 (v := ?_) hHeld (by simp only [List.getElem?_toArray, List.getElem?_cons_succ, List.getElem?_cons_zero]; exact rfl) (by kernel_rfl) (by exact fun _ _ _ h => h) (by rfl) ?_ ?_
                        rotate_left
                        · (intro w hSw; (try dsimp only at hSw); go_simp; try with_reducible rfl)
                        try simp only [Act.put, List.setIfInBounds_toArray, List.set_cons_zero, List.set_cons_succ]
                        refine wpF_take 6 (v := ?_) hHeld (by simp only [List.getElem?_toArray, List.getElem?_cons_succ, List.getElem?_cons_zero]; exact rfl) (by kernel_rfl) (by exact fun _ _ _ h => h) (by rfl) ?_ ?_
                        rotate_left
                        · (intro w hSw; (try dsimp only at hSw); go_simp; try with_reducible rfl)
                        try simp only [Act.put, List.setIfInBounds_toArray, List.set_cons_zero, List.set_cons_succ]
                        refine wpF_one 3 (by simp only [List.getElem?_toArray, List.getElem?_cons_succ, List.getElem?_cons_zero]; exact rfl) (by kernel_rfl) (fun K hK => ?_)
                        go_simp
                        refine (flow1b C.gr hx.out.drew1 (hok'.out.okP hN)).mono ?_
                        rintro e w3 ⟨A3, c3, S3, rq3, rfl, h3, o3, m3, k3⟩
                        refine hK _ _ ?_ (fun hHeld => ?_)
                        · exact h3.h.cellAt 2 0 3 rfl rfl rfl
                        clear hK K
                        try simp only [Act.put, List.setIfInBounds_toArray, List.set_cons_zero, List.set_cons_succ]
                        refine wpF_one 7 (by simp only [List.getElem?_toArray, List.getElem?_cons_succ, List.getElem?_cons_zero]; exact rfl) (by kernel_rfl) (fun K hK => ?_)
                        go_simp
                        refine (flow2b C.gr h3 (hok'.out.okP hN)).mono ?_
                        rintro e w4 ⟨A4, c4, S4, rq4, rfl, h4, o4, m4, k4⟩
                        refine hK _ _ ?_ (fun hHeld => ?_)
                        · exact h4.h.cellAt 4 0 3 rfl rfl rfl
                        clear hK K
                        try simp only [Act.put, List.setIfInBounds_toArray, List.set_cons_zero, List.set_cons_succ]
                        refine wpF_take 8 (v := ?_) hHeld (by simp only [List.getElem?_toArray, List.getElem?_cons_succ, List.getElem?_cons_zero]; exact rfl) (by kernel_rfl) (by exact fun _ _ _ h => h) (by rfl) ?_ ?_
                        rotate_left
                        · (intro w hSw; (try dsimp only at hSw); go_simp; try with_reducible rfl)
                        try simp only [Act.put, List.setIfInBounds_toArray, List.set_cons_zero, List.set_cons_succ]
                        refine wpF_take 9 (v := ?_) hHeld (by simp only [List.getElem?_toArray, List.getElem?_cons_succ, List.getElem?_cons_zero]; exact rfl) (by kernel_rfl) (by exact fun _ _ _ h => h) (by rfl) ?_ ?_
                        rotate_left
                        · (intro w hSw; (try dsimp only at hSw); go_simp; try with_reducible rfl)
                        try simp only [Act.put, List.setIfInBounds_toArray, List.set_cons_zero, List.set_cons_succ]
                        refine wpF_done (by kernel_rfl) ?_
--END 22
                        generalize hm : (ps.filter fun p => flowB C.gr p.f p.t).length = m at *
                        have hm' := Lib.hid hm
                        have hle := Nat.le_trans (hm ▸ List.length_filter_le _ _ : m ≤ ps.length) hx.out.le1
                        obtain ⟨X, h4⟩ : ∃ X : Seg, Both W w4 (S4 :: datas rq4 :: S3 :: datas rq3 :: X :: L) b c N (ps.filter fun p => !flowB C.gr p.f p.t) (ps.filter fun p => !flowB C.gr p.f p.t) := ⟨_, h4⟩
                        have h4' := Lib.hid h4
                        have w3' := Lib.hid (show ∀ r ∈ rq3, ∃ A m c, r.v = .slice A m c from fun r hr => by obtain ⟨A, c, hv⟩ := (k3 r hr).1.form; exact ⟨A, _, c, hv⟩)
                        have w4' := Lib.hid (show ∀ r ∈ rq4, ∃ A m c, r.v = .slice A m c from fun r hr => by obtain ⟨A, c, hv⟩ := (k4 r hr).1.form; exact ⟨A, _, c, hv⟩)
                        have e3' := Lib.hid (show rq3.length = m by rw [← hm, ← m3, List.length_map])
                        have e4' := Lib.hid (show rq4.length = m by rw [← hm, ← m4, List.length_map])
                        have m3' := Lib.hid m3
                        have m4' := Lib.hid m4
                        have o3' := Lib.hid o3
                        have o4' := Lib.hid o4
                        have k3' := Lib.hid k3
                        have k4' := Lib.hid k4
                        clear hm h4 m3 m4 o3 o4 k3 k4 h3
                        go_wp2_with fail
                        go_loopw [11, 18] (fun t i wq => ∃ k : Nat, t = .bool true ∧ i = .int .i64 k ∧ k ≤ m ∧ Both W wq (S4 :: datas rq4 :: S3 :: datas rq3 :: X :: L) b c N (ps.filter fun p => !flowB C.gr p.f p.t) (ps.filter fun p => !flowB C.gr p.f p.t)) (fun _ i _ => m - (intOf i).toNat)
                        case atStart =>
                          exact ⟨0, rfl, rfl, Nat.zero_le _, h4'.out⟩
                        case round =>
                          obtain ⟨q, rfl, rfl, hq, hb5⟩ := hrel
                          by_cases hqm : q < m
                          · obtain ⟨g3, cap3, cur3, hv3, rfl, _⟩ := o3'.out.some (by rw [e3'.out]; omega)
                            obtain ⟨g4, cap4, cur4, hv4, rfl, _⟩ := o4'.out.some (by rw [e4'.out]; omega)
                            obtain ⟨rfl, hm3, rfl⟩ : A3 = some ⟨g3, 0, none⟩ ∧ m = rq3.length ∧ c3 = cap3 := by simpa using hv3
                            obtain ⟨rfl, hm4, rfl⟩ : A4 = some ⟨g4, 0, none⟩ ∧ m = rq4.length ∧ c4 = cap4 := by simpa using hv4
                            have hq3 : q < rq3.length := by omega
                            have hq4 : q < rq4.length := by omega
                            have ep : (rq3[q]).p = (rq4[q]).p := by
                              have h34 : rq3.map PR.p = rq4.map PR.p := by rw [m3'.out, m4'.out]
                              have := congrArg (fun l => l[q]?) h34
                              simpa [hq3, hq4] using this
                            have hS : ∀ w6 : World, H W w6 ([(g4, Obj.cells cur4 43 (0, 0))] :: datas rq4 :: [(g3, Obj.cells cur3 30 (0, 0))] :: datas rq3 :: X :: L) →
                                w6.cell? ⟨g3, q * 3, none⟩ = some (.int .i64 (rq3[q]).p.f) ∧ w6.cell? ⟨g3, q * 3 + 1, none⟩ = some (.int .i64 (rq3[q]).p.t) ∧ w6.cell? ⟨g3, q * 3 + 2, none⟩ = some (rq3[q]).v ∧
                                w6.cell? ⟨g4, q * 3, none⟩ = some (.int .i64 (rq4[q]).p.f) ∧ w6.cell? ⟨g4, q * 3 + 1, none⟩ = some (.int .i64 (rq4[q]).p.t) ∧ w6.cell? ⟨g4, q * 3 + 2, none⟩ = some (rq4[q]).v := fun w6 h6 => by
                              have R3 := rows3g (n := m) (by rw [e3'.out] at o3'; exact o3'.out) h6 (fun p hp => by simp only [List.flatten_cons, List.mem_append]; exact .inr (.inr (.inl hp))) e3'.out
                              have R4 := rows3g (n := m) (by rw [e4'.out] at o4'; exact o4'.out) h6 (fun p hp => by simp only [List.flatten_cons, List.mem_append]; exact .inl hp) e4'.out
                              exact ⟨R3.c0 q hq3, R3.c1 q hq3, R3.c2 q hq3, R4.c0 q hq4, R4.c1 q hq4, R4.c2 q hq4⟩
                            obtain ⟨B3, n3, d3, hB3⟩ := w3'.out _ (List.getElem_mem hq3)
                            obtain ⟨B4, n4, d4, hB4⟩ := w4'.out _ (List.getElem_mem hq4)
                            have rl3 : RL ([(g4, Obj.cells cur4 43 (0, 0))] :: datas rq4 :: [(g3, Obj.cells cur3 30 (0, 0))] :: datas rq3 :: X :: L) (rq3[q]).v (rq3[q]).p.d := by
                              have h := k3'.out _ (List.getElem_mem hq3)
                              exact (OB.rl h.1 h.2 []).mono fun p hp => by
                                simp only [List.flatten_cons, List.flatten_nil, List.append_nil, List.mem_append] at hp ⊢
                                exact .inr (.inr (.inr (.inl (List.mem_flatMap.2 ⟨_, List.getElem_mem hq3, hp⟩))))
                            have rl4 : RL ([(g4, Obj.cells cur4 43 (0, 0))] :: datas rq4 :: [(g3, Obj.cells cur3 30 (0, 0))] :: datas rq3 :: X :: L) (rq4[q]).v (rq4[q]).p.d := by
                              have h := k4'.out _ (List.getElem_mem hq4)
                              exact (OB.rl h.1 h.2 []).mono fun p hp => by
                                simp only [List.flatten_cons, List.flatten_nil, List.append_nil, List.mem_append] at hp ⊢
                                exact .inr (.inl (List.mem_flatMap.2 ⟨_, List.getElem_mem hq4, hp⟩))
                            rw [hB3] at hS rl3
                            rw [hB4] at hS rl4
                            rw [← ep] at hS rl4
                            have hS' := Lib.hid hS
                            clear hS
                            generalize (rq3[q]).p = p at *
                            have hqi : (q : Int) < (m : Int) := by omega
                            have rl3' := Lib.hid rl3
                            have rl4' := Lib.hid rl4
                            have hb5' := Lib.hid hb5
                            have hmm := Lib.hid hm3
                            have hmm4 := Lib.hid hm4
                            clear hb5 rl3 rl4 hv3 hv4 hB3 hB4 ep hm3 hm4
                            go_wp2_with fail
--REGION 27
                            refine wpF_start (S := (fun w' => w'.cell? ⟨g3, q * 3, none⟩ = some (.int .i64 p.f) ∧ w'.cell? ⟨g3, q * 3 + 1, none⟩ = some (.int .i64 p.t) ∧ w'.cell? ⟨g3, q * 3 + 2, none⟩ = some (.slice B3 n3 d3) ∧ w'.cell? ⟨g4, q * 3, none⟩ = some (.int .i64 p.f) ∧ w'.cell? ⟨g4, q * 3 + 1, none⟩ = some (.int .i64 p.t) ∧ w'.cell? ⟨g4, q * 3 + 2, none⟩ = some (.slice B4 n4 d4))) (fins := []) (by kernel_rfl) ?_ (fun hHeld => ?_)
                            · exact hS'.out _ hb5'.out.drew1.h
                            refine wpF_take 0 (v := ?_) hHeld (by simp only [List.getElem?_toArray, List.getElem?_cons_zero]; exact rfl) (by kernel_rfl) (by exact fun _ _ _ h => h) (by rfl) ?_ ?_
                            rotate_left
                            · (intro w hSw; (try dsimp only at hSw); go_simp; try with_reducible rfl)
                            try simp only [Act.put, List.setIfInBounds_toArray, List.set_cons_zero, List.set_cons_succ]
                            refine wpF_take 1 (v := ?_) hHeld (by simp only [List.getElem?_toArray, List.getElem?_cons_succ, List.getElem?_cons_zero]; exact rfl) (by kernel_rfl) (by exact fun _ _ _ h => h) (by rfl) ?_ ?_
                            rotate_left
                            · (intro w hSw; (try dsimp only at hSw); go_simp; try with_reducible rfl)
                            try simp only [Act.put, List.setIfInBounds_toArray, List.set_cons_zero, List.set_cons_succ]
                            refine wpF_take 2 (v := ?_) hHeld (by simp only [List.getElem?_toArray, List.getElem?_cons_succ, List.getElem?_cons_zero]; exact rfl) (by kernel_rfl) (by exact fun _ _ _ h => h) (by rfl) ?_ ?_
                            rotate_left
                            · (intro w hSw; (try dsimp only at hSw); go_simp; try with_reducible rfl)
                            try simp only [Act.put, List.setIfInBounds_toArray, List.set_cons_zero, List.set_cons_succ]
                            refine wpF_take 3 (v := ?_) hHeld (by simp only [List.getElem?_toArray, List.getElem?_cons_succ, List.getElem?_cons_zero]; exact rfl) (by kernel_rfl) (by exact fun _ _ _ h => h) (by rfl) ?_ ?_
                            rotate_left
                            · (intro w hSw; (try dsimp only at hSw); go_simp; try with_reducible rfl)
                            try simp only [Act.put, List.setIfInBounds_toArray, List.set_cons_zero, List.set_cons_succ]
                            refine wpF_take 4 (v := ?_) hHeld (by simp only [List.getElem?_toArray, List.getElem?_cons_succ, List.getElem?_cons_zero]; exact rfl) (by kernel_rfl) (by exact fun _ _ _ h => h) (by rfl) ?_ ?_
                            rotate_left
                            · (intro w hSw; (try dsimp only at hSw); go_simp; try with_reducible rfl)
                            try simp only [Act.put, List.setIfInBounds_toArray, List.set_cons_zero, List.set_cons_succ]
                            refine wpF_take 5 (v := ?_) hHeld (by simp only [List.getElem?_toArray, List.getElem?_cons_succ, List.getElem?_cons_zero]; exact rfl) (by kernel_rfl) (by exact fun _ _ _ h => h) (by rfl) ?_ ?_
                            rotate_left
                            · (intro w hSw; (try dsimp only at hSw); go_simp; try with_reducible rfl)
                            try simp only [Act.put, List.setIfInBounds_toArray, List.set_cons_zero, List.set_cons_succ]
                            refine wpF_take 6 (v := ?_) hHeld (by simp only [List.getElem?_toArray, List.getElem?_cons_succ, List.getElem?_cons_zero]; exact rfl) (by kernel_rfl) (by exact fun _ _ _ h => h) (by rfl) ?_ ?_
                            rotate_left
                            · (intro w hSw; (try dsimp only at hSw); go_simp; try with_reducible rfl)
                            try simp only [Act.put, List.setIfInBounds_toArray, List.set_cons_zero, List.set_cons_succ]
                            refine wpF_take 7 (v := ?_) hHeld (by simp only [List.getElem?_toArray, List.getElem?_cons_succ, List.getElem?_cons_zero]; exact rfl) (by kernel_rfl) (by exact fun _ _ _ h => h) (by rfl) ?_ ?_
                            rotate_left
                            · (intro w hSw; (try dsimp only at hSw); go_simp; try with_reducible rfl)
                            try simp only [Act.put, List.setIfInBounds_toArray, List.set_cons_zero, List.set_cons_succ]
                            refine wpF_one 8 (by simp only [List.getElem?_toArray, List.getElem?_cons_succ, List.getElem?_cons_zero]; exact rfl) (by kernel_rfl) (fun K hK => ?_)
                            go_simp
                            refine (same_both p hb5'.out.drew1 rl3'.out rl4'.out).mono ?_
                            rintro e w6 ⟨rfl, h6⟩
                            refine hK _ _ ?_ (fun hHeld => ?_)
                            · exact hS'.out _ h6.h
                            clear hK K
                            try simp only [Act.put, List.setIfInBounds_toArray, List.set_cons_zero, List.set_cons_succ]
                            refine wpF_take 9 (v := ?_) hHeld (by simp only [List.getElem?_toArray, List.getElem?_cons_succ, List.getElem?_cons_zero]; exact rfl) (by kernel_rfl) (by exact fun _ _ _ h => h) (by rfl) ?_ ?_
                            rotate_left
                            · (intro w hSw; (try dsimp only at hSw); go_simp; try with_reducible rfl)
                            try simp only [Act.put, List.setIfInBounds_toArray, List.set_cons_zero, List.set_cons_succ]
                            refine wpF_done (by kernel_rfl) ?_
--END 27
                            go_wp2_with fail
                            go_roundw
                            case rel => exact ⟨q + 1, rfl, by go_num, by omega, h6⟩
                            case measure => simp [intOf]; omega
                          · have hqm' : q = m := by omega
                            subst hqm'
                            have hb5' := Lib.hid hb5
                            clear hb5
                            go_wp2_with fail
                            go_meet
                            exact ⟨rfl, _, hb5'.out.drop.drop.drop.drop.drop, hok'.out.filter _⟩
                      · have z4 : (C.op == 4) = false := by simpa using o4
                        clear o4
                        go_wp2_with fail
--REGION 10
                        refine wpF_start (S := (fun w' => w'.cell? ⟨wr.heap.size, 3, none⟩ = some (.int .i64 C.gr))) (fins := []) (by kernel_rfl) ?_ (fun hHeld => ?_)
                        · exact hx.out.drew1.h.cellAt 0 0 3 rfl rfl rfl
                        refine wpF_take 0 (v := ?_) hHeld (by simp only [List.getElem?_toArray, List.getElem?_cons_zero]; exact rfl) (by kernel_rfl) (by exact fun _ _ _ h => h) (by rfl) ?_ ?_
                        rotate_left
                        · (intro w hSw; (try dsimp only at hSw); go_simp; try with_reducible rfl)
                        try simp only [Act.put, List.setIfInBounds_toArray, List.set_cons_zero, List.set_cons_succ]
                        refine wpF_take 1 (v := ?_) hHeld (by simp only [List.getElem?_toArray, List.getElem?_cons_succ, List.getElem?_cons_zero]; exact rfl) (by kernel_rfl) (by exact fun _ _ _ h => h) (by rfl) ?_ ?_
                        rotate_left
                        · (intro w hSw; (try dsimp only at hSw); go_simp; try with_reducible rfl)
                        try simp only [Act.put, List.setIfInBounds_toArray, List.set_cons_zero, List.set_cons_succ]
                        refine wpF_take 2 (v := ?_) hHeld (by simp only [List.getElem?_toArray, List.getElem?_cons_succ, List.getElem?_cons_zero]; exact rfl) (by kernel_rfl) (by exact fun _ _ _ h => h) (by rfl) ?_ ?_
                        rotate_left
                        · (intro w hSw; (try dsimp only at hSw); go_simp; try with_reducible rfl)
                        try simp only [Act.put, List.setIfInBounds_toArray, List.set_cons_zero, List.set_cons_succ]
                        refine wpF_take 4 (v := ?_) hHeld (by simp only [List.getElem?_toArray, List.getElem?_cons_succ, List.getElem?_cons_zero]; exact rfl) (by kernel_rfl) (by exact fun _ _ _ h => h) (by rfl) ?_ ?_
                        rotate_left
                        · (intro w hSw; (try dsimp only at hSw); go_simp; try with_reducible rfl)
                        try simp only [Act.put, List.setIfInBounds_toArray, List.set_cons_zero, List.set_cons_succ]
                        refine wpF_take 5 (v := ?_) hHeld (by simp only [List.getElem?_toArray, List.getElem?_cons_succ, List.getElem?_cons_zero]; exact rfl) (by kernel_rfl) (by exact fun _ _ _ h => h) (by rfl) ?_ ?_
                        rotate_left
                        · (intro w hSw; (try dsimp only at hSw); go_simp; try with_reducible rfl)
                        try simp only [Act.put, List.setIfInBounds_toArray, List.set_cons_zero, List.set_cons_succ]
                        refine wpF_take 6 (v := ?_) hHeld (by simp only [List.getElem?_toArray, List.getElem?_cons_succ, List.getElem?_cons_zero]; exact rfl) (by kernel_rfl) (by exact fun _ _ _ h => h) (by rfl) ?_ ?_
                        rotate_left
                        · (intro w hSw; (try dsimp only at hSw); go_simp; try with_reducible rfl)
                        try simp only [Act.put, List.setIfInBounds_toArray, List.set_cons_zero, List.set_cons_succ]
                        refine wpF_one 3 (by simp only [List.getElem?_toArray, List.getElem?_cons_succ, List.getElem?_cons_zero]; exact rfl) (by kernel_rfl) (fun K hK => ?_)
                        go_simp
                        refine (disc1b C.gr hx.out.drew1 (hok'.out.okP hN)).mono ?_
                        rintro e w3 ⟨rfl, h3⟩
                        refine hK _ _ ?_ (fun hHeld => ?_)
                        · exact h3.h.cellAt 0 0 3 rfl rfl rfl
                        clear hK K
                        try simp only [Act.put, List.setIfInBounds_toArray, List.set_cons_zero, List.set_cons_succ]
                        refine wpF_one 7 (by simp only [List.getElem?_toArray, List.getElem?_cons_succ, List.getElem?_cons_zero]; exact rfl) (by kernel_rfl) (fun K hK => ?_)
                        go_simp
                        refine (disc2b C.gr h3 (hok'.out.okP hN)).mono ?_
                        rintro e w4 ⟨rfl, h4⟩
                        refine hK _ _ ?_ (fun hHeld => ?_)
                        · exact h4.h.cellAt 0 0 3 rfl rfl rfl
                        clear hK K
                        try simp only [Act.put, List.setIfInBounds_toArray, List.set_cons_zero, List.set_cons_succ]
                        refine wpF_take 8 (v := ?_) hHeld (by simp only [List.getElem?_toArray, List.getElem?_cons_succ, List.getElem?_cons_zero]; exact rfl) (by kernel_rfl) (by exact fun _ _ _ h => h) (by rfl) ?_ ?_
                        rotate_left
                        · (intro w hSw; (try dsimp only at hSw); go_simp; try with_reducible rfl)
                        try simp only [Act.put, List.setIfInBounds_toArray, List.set_cons_zero, List.set_cons_succ]
                        refine wpF_take 9 (v := ?_) hHeld (by simp only [List.getElem?_toArray, List.getElem?_cons_succ, List.getElem?_cons_zero]; exact rfl) (by kernel_rfl) (by exact fun _ _ _ h => h) (by rfl) ?_ ?_
                        rotate_left
                        · (intro w hSw; (try dsimp only at hSw); go_simp; try with_reducible rfl)
                        try simp only [Act.put, List.setIfInBounds_toArray, List.set_cons_zero, List.set_cons_succ]
                        refine wpF_done (by kernel_rfl) ?_
--END 10
                        go_wp2_with fail
                        go_meet
                        exact ⟨rfl, _, h4.drop, hok'.out.filter _⟩
            case rest =>
              obtain ⟨rfl, ps2, hb2, hok2⟩ := hcut
              obtain ⟨A5, c5, hcell⟩ := hb2.refCell
              have hb2' := Lib.hid hb2
              have hok2' := Lib.hid hok2
              clear hb2 hok2
              have hlb := World.block_lt_of_cell? _ _ hcell
              go_wp2_with fail
--REGION 28
              refine wpF_start (S := (fun w' => w'.cell? ⟨c, 1, none⟩ = some (.slice A5 ps2.length c5))) (fins := []) (by kernel_rfl) ?_ (fun hHeld => ?_)
              · exact hcell
              refine wpF_take 0 (v := ?_) hHeld (by simp only [List.getElem?_toArray, List.getElem?_cons_zero]; exact rfl) (by kernel_rfl) (by exact fun _ _ _ h => h) (by rfl) ?_ ?_
              rotate_left
              · (intro w hSw; (try dsimp only at hSw); go_simp; try with_reducible rfl)
              try simp only [Act.put, List.setIfInBounds_toArray, List.set_cons_zero, List.set_cons_succ]
              refine wpF_take 1 (v := ?_) hHeld (by simp only [List.getElem?_toArray, List.getElem?_cons_succ, List.getElem?_cons_zero]; exact rfl) (by kernel_rfl) (by exact fun _ _ _ h => h) (by rfl) ?_ ?_
              rotate_left
              · (intro w hSw; (try dsimp only at hSw); go_simp; try with_reducible rfl)
              try simp only [Act.put, List.setIfInBounds_toArray, List.set_cons_zero, List.set_cons_succ]
              refine wpF_take 2 (v := ?_) hHeld (by simp only [List.getElem?_toArray, List.getElem?_cons_succ, List.getElem?_cons_zero]; exact rfl) (by kernel_rfl) (by exact fun _ _ _ h => h) (by rfl) ?_ ?_
              rotate_left
              · (intro w hSw; (try dsimp only at hSw); go_simp; try with_reducible rfl)
              try simp only [Act.put, List.setIfInBounds_toArray, List.set_cons_zero, List.set_cons_succ]
              refine wpF_take 3 (v := ?_) hHeld (by simp only [List.getElem?_toArray, List.getElem?_cons_succ, List.getElem?_cons_zero]; exact rfl) (by kernel_rfl) (by exact fun _ _ _ h => h) (by rfl) ?_ ?_
              rotate_left
              · (intro w hSw; (try dsimp only at hSw); go_simp; try with_reducible rfl)
              try simp only [Act.put, List.setIfInBounds_toArray, List.set_cons_zero, List.set_cons_succ]
              refine wpF_take 5 (v := ?_) hHeld (by simp only [List.getElem?_toArray, List.getElem?_cons_succ, List.getElem?_cons_zero]; exact rfl) (by kernel_rfl) (by exact fun _ _ _ h => h) (by rfl) ?_ ?_
              rotate_left
              · (intro w hSw; (try dsimp only at hSw); go_simp; try with_reducible rfl)
              try simp only [Act.put, List.setIfInBounds_toArray, List.set_cons_zero, List.set_cons_succ]
              refine wpF_take 6 (v := ?_) hHeld (by simp only [List.getElem?_toArray, List.getElem?_cons_succ, List.getElem?_cons_zero]; exact rfl) (by kernel_rfl) (by exact fun _ _ _ h => h) (by rfl) ?_ ?_
              rotate_left
              · (intro w hSw; (try dsimp only at hSw); go_simp; try with_reducible rfl)
              try simp only [Act.put, List.setIfInBounds_toArray, List.set_cons_zero, List.set_cons_succ]
              refine wpF_take 7 (v := ?_) hHeld (by simp only [List.getElem?_toArray, List.getElem?_cons_succ, List.getElem?_cons_zero]; exact rfl) (by kernel_rfl) (by exact fun _ _ _ h => h) (by rfl) ?_ ?_
              rotate_left
              · (intro w hSw; (try dsimp only at hSw); go_simp; try with_reducible rfl)
              try simp only [Act.put, List.setIfInBounds_toArray, List.set_cons_zero, List.set_cons_succ]
              refine wpF_take 8 (v := ?_) hHeld (by simp only [List.getElem?_toArray, List.getElem?_cons_succ, List.getElem?_cons_zero]; exact rfl) (by kernel_rfl) (by exact fun _ _ _ h => h) (by rfl) ?_ ?_
              rotate_left
              · (intro w hSw; (try dsimp only at hSw); go_simp; try with_reducible rfl)
              try simp only [Act.put, List.setIfInBounds_toArray, List.set_cons_zero, List.set_cons_succ]
              refine wpF_take 9 (v := ?_) hHeld (by simp only [List.getElem?_toArray, List.getElem?_cons_succ, List.getElem?_cons_zero]; exact rfl) (by kernel_rfl) (by exact fun _ _ _ h => h) (by rfl) ?_ ?_
              rotate_left
              · (intro w hSw; (try dsimp only at hSw); go_simp; try with_reducible rfl)
              try simp only [Act.put, List.setIfInBounds_toArray, List.set_cons_zero, List.set_cons_succ]
              refine wpF_one 4 (by simp only [List.getElem?_toArray, List.getElem?_cons_succ, List.getElem?_cons_zero]; exact rfl) (by kernel_rfl) (fun K hK => ?_)
              go_simp
              refine (len1b hb2'.out.drew1).mono ?_
              rintro e w6 ⟨rfl, rfl⟩
              refine hK _ _ ?_ (fun hHeld => ?_)
              · exact hcell
              clear hK K
              try simp only [Act.put, List.setIfInBounds_toArray, List.set_cons_zero, List.set_cons_succ]
              refine wpF_take 10 (v := ?_) hHeld (by simp only [List.getElem?_toArray, List.getElem?_cons_succ, List.getElem?_cons_zero]; exact rfl) (by kernel_rfl) (by exact fun _ _ _ h => h) (by rfl) ?_ ?_
              rotate_left
              · (intro w hSw; (try dsimp only at hSw); go_simp; try with_reducible rfl)
              try simp only [Act.put, List.setIfInBounds_toArray, List.set_cons_zero, List.set_cons_succ]
              refine wpF_take 11 (v := ?_) hHeld (by simp only [List.getElem?_toArray, List.getElem?_cons_succ, List.getElem?_cons_zero]; exact rfl) (by kernel_rfl) (by exact fun _ _ _ h => h) (by rfl) ?_ ?_
              rotate_left
              · (intro w hSw; (try dsimp only at hSw); go_simp; try with_reducible rfl)
              try simp only [Act.put, List.setIfInBounds_toArray, List.set_cons_zero, List.set_cons_succ]
              refine wpF_done (by kernel_rfl) ?_
--END 28
              go_wp2_with fail
              go_roundw
              case rel => exact ⟨k + 1, ps2, by go_num, by omega, hb2'.out.drew1, hok2'.out⟩
              case measure => simp [intOf]; omega
      · have hkn : k = n := by omega
        subst hkn
        go_wp2_with fail
        go_meet
        exact ⟨ps, hb'.out, hok'.out⟩
  case rest =>
    obtain ⟨ps, hb, hok⟩ := hcut
    have hb' := Lib.hid hb
    clear hb hok
    obtain ⟨A5, c5, hcell⟩ := hb'.out.refCell
    go_wp2_with fail
    go_loopw [19] (fun i wr => ∃ k : Nat, i = .int .i64 k ∧ k ≤ ps.length ∧ Both W wr L b c N ps ps) (fun i _ => ps.length - (intOf i).toNat)
    case atStart => exact ⟨0, rfl, Nat.zero_le _, hb'.out⟩
    case round =>
      obtain ⟨k, rfl, hk, hbr⟩ := hrel
      have hbr' := Lib.hid hbr
      clear hbr hcell
      by_cases hlt : k < ps.length
      · obtain ⟨A6, c6, hcell⟩ := hbr'.out.refCell
        have hki : (k : Int) < (ps.length : Int) := by omega
        have hat : atI ps (k : Int) = some ps[k] := by unfold atI; rw [if_neg (by omega)]; simp [hlt]
        have hat' := Lib.hid hat
        have hlt' := Lib.hid hlt
        clear hat
        go_wp2_with (go_at_call 9; refine (get1b k hbr'.out).mono ?_; rintro e w3 ⟨p, t, A3, c3, S3, rfl, r3, h3, ht3, hp3⟩
                     rw [hat'.out] at ht3 hp3
                     simp only [Option.isSome_some, Option.getD_some] at ht3 hp3
                     subst ht3
                     have h3' := Lib.hid (h3.alloc (.cells #[.int .i64 p.f, .int .i64 p.t, .slice A3 p.d.length c3] 30))
                     have r3' := Lib.hid r3
                     have p3' := Lib.hid hp3
                     clear r3 h3 hp3)
        obtain ⟨M, g, cap6, cc6, A7, hM, hHM, hrlM, hup⟩ := h3'.out.row k hlt
        rw [← p3'.out] at hM hrlM
        have hS' := Lib.hid (show ∀ w' : World, H W w' M → w'.cell? ⟨w3.heap.size, 0, none⟩ = some (.int .i64 p.f) ∧ w'.cell? ⟨w3.heap.size, 1, none⟩ = some (.int .i64 p.t) ∧ w'.cell? ⟨w3.heap.size, 2, none⟩ = some (.slice A3 p.d.length c3) ∧
            w'.cell? ⟨c, 1, none⟩ = some (.slice (some ⟨g, 0, none⟩) ps.length cap6) ∧ w'.cell? ⟨g, k * 3, none⟩ = some (.int .i64 p.f) ∧ w'.cell? ⟨g, k * 3 + 1, none⟩ = some (.int .i64 p.t) ∧ w'.cell? ⟨g, k * 3 + 2, none⟩ = some (.slice A7 p.d.length cc6) from
          fun w' h => ⟨(hM w' h).both.h.cellAt 0 0 0 rfl rfl rfl, (hM w' h).both.h.cellAt 0 0 1 rfl rfl rfl, (hM w' h).both.h.cellAt 0 0 2 rfl rfl rfl, (hM w' h).c1, (hM w' h).r0, (hM w' h).r1, (hM w' h).r2⟩)
        have hM' := Lib.hid hM
        have hHM' := Lib.hid hHM
        have hrl' := Lib.hid hrlM
        have hup' := Lib.hid hup
        clear hM hHM hrlM hup
--REGION 35
        refine wpF_start (S := (fun w' => w'.cell? ⟨w3.heap.size, 0, none⟩ = some (.int .i64 p.f) ∧ w'.cell? ⟨w3.heap.size, 1, none⟩ = some (.int .i64 p.t) ∧ w'.cell? ⟨w3.heap.size, 2, none⟩ = some (.slice A3 p.d.length c3) ∧ w'.cell? ⟨c, 1, none⟩ = some (.slice (some ⟨g, 0, none⟩) ps.length cap6) ∧ w'.cell? ⟨g, k * 3, none⟩ = some (.int .i64 p.f) ∧ w'.cell? ⟨g, k * 3 + 1, none⟩ = some (.int .i64 p.t) ∧ w'.cell? ⟨g, k * 3 + 2, none⟩ = some (.slice A7 p.d.length cc6))) (fins := []) (by kernel_rfl) ?_ (fun hHeld => ?_)
        · exact hS'.out _ hHM'.out.drew
        refine wpF_take 0 (v := ?_) hHeld (by simp only [List.getElem?_toArray, List.getElem?_cons_zero]; exact rfl) (by kernel_rfl) (by exact fun _ _ _ h => h) (by rfl) ?_ ?_
        rotate_left
        · (intro w hSw; (try dsimp only at hSw); go_simp; try with_reducible rfl)
        try simp only [Act.put, List.setIfInBounds_toArray, List.set_cons_zero, List.set_cons_succ]
        refine wpF_take 1 (v := ?_) hHeld (by simp only [List.getElem?_toArray, List.getElem?_cons_succ, List.getElem?_cons_zero]; exact rfl) (by kernel_rfl) (by exact fun _ _ _ h => h) (by rfl) ?_ ?_
        rotate_left
        · (intro w hSw; (try dsimp only at hSw); go_simp; try with_reducible rfl)
        try simp only [Act.put, List.setIfInBounds_toArray, List.set_cons_zero, List.set_cons_succ]
        refine wpF_take 2 (v := ?_) hHeld (by simp only [List.getElem?_toArray, List.getElem?_cons_succ, List.getElem?_cons_zero]; exact rfl) (by kernel_rfl) (by exact fun _ _ _ h => h) (by rfl) ?_ ?_
        rotate_left
        · (intro w hSw; (try dsimp only at hSw); go_simp; try with_reducible rfl)
        try simp only [Act.put, List.setIfInBounds_toArray, List.set_cons_zero, List.set_cons_succ]
        refine wpF_take 3 (v := ?_) hHeld (by simp only [List.getElem?_toArray, List.getElem?_cons_succ, List.getElem?_cons_zero]; exact rfl) (by kernel_rfl) (by exact fun _ _ _ h => h) (by rfl) ?_ ?_
        rotate_left
        · (intro w hSw; (try dsimp only at hSw); go_simp; try with_reducible rfl)
        try simp only [Act.put, List.setIfInBounds_toArray, List.set_cons_zero, List.set_cons_succ]
        refine wpF_take 4 (v := ?_) hHeld (by simp only [List.getElem?_toArray, List.getElem?_cons_succ, List.getElem?_cons_zero]; exact rfl) (by kernel_rfl) (by exact fun _ _ _ h => h) (by rfl) ?_ ?_
        rotate_left
        · (intro w hSw; (try dsimp only at hSw); go_simp; try with_reducible rfl)
        try simp only [Act.put, List.setIfInBounds_toArray, List.set_cons_zero, List.set_cons_succ]
        refine wpF_take 5 (v := ?_) hHeld (by simp only [List.getElem?_toArray, List.getElem?_cons_succ, List.getElem?_cons_zero]; exact rfl) (by kernel_rfl) (by exact fun _ _ _ h => h) (by rfl) ?_ ?_
        rotate_left
        · (intro w hSw; (try dsimp only at hSw); go_simp; try with_reducible rfl)
        try simp only [Act.put, List.setIfInBounds_toArray, List.set_cons_zero, List.set_cons_succ]
        refine wpF_take 6 (v := ?_) hHeld (by simp only [List.getElem?_toArray, List.getElem?_cons_succ, List.getElem?_cons_zero]; exact rfl) (by kernel_rfl) (by exact fun _ _ _ h => h) (by rfl) ?_ ?_
        rotate_left
        · (intro w hSw; (try dsimp only at hSw); go_simp; try with_reducible rfl)
        try simp only [Act.put, List.setIfInBounds_toArray, List.set_cons_zero, List.set_cons_succ]
        refine wpF_take 7 (v := ?_) hHeld (by simp only [List.getElem?_toArray, List.getElem?_cons_succ, List.getElem?_cons_zero]; exact rfl) (by kernel_rfl) (by exact fun _ _ _ h => h) (by rfl) ?_ ?_
        rotate_left
        · (intro w hSw; (try dsimp only at hSw); go_simp; try with_reducible rfl)
        try simp only [Act.put, List.setIfInBounds_toArray, List.set_cons_zero, List.set_cons_succ]
        refine wpF_take 8 (v := ?_) hHeld (by simp only [List.getElem?_toArray, List.getElem?_cons_succ, List.getElem?_cons_zero]; exact rfl) (by kernel_rfl) (by exact fun _ _ _ h => h) (by rfl) ?_ ?_
        rotate_left
        · (intro w hSw; (try dsimp only at hSw); go_simp; try with_reducible rfl)
        try simp only [Act.put, List.setIfInBounds_toArray, List.set_cons_zero, List.set_cons_succ]
        refine wpF_take 9 (v := ?_) hHeld (by simp only [List.getElem?_toArray, List.getElem?_cons_succ, List.getElem?_cons_zero]; exact rfl) (by kernel_rfl) (by exact fun _ _ _ h => h) (by rfl) ?_ ?_
        rotate_left
        · (intro w hSw; (try dsimp only at hSw); go_simp; try with_reducible rfl)
        try simp only [Act.put, List.setIfInBounds_toArray, List.set_cons_zero, List.set_cons_succ]
        refine wpF_take 10 (v := ?_) hHeld (by simp only [List.getElem?_toArray, List.getElem?_cons_succ, List.getElem?_cons_zero]; exact rfl) (by kernel_rfl) (by exact fun _ _ _ h => h) (by rfl) ?_ ?_
        rotate_left
        · (intro w hSw; (try dsimp only at hSw); go_simp; try with_reducible rfl)
        try simp only [Act.put, List.setIfInBounds_toArray, List.set_cons_zero, List.set_cons_succ]
        refine wpF_one 11 (by simp only [List.getElem?_toArray, List.getElem?_cons_succ, List.getElem?_cons_zero]; exact rfl) (by kernel_rfl) (fun K hK => ?_)
        go_simp
        refine (same_refl p.f p.t p.d hHM'.out.drew (hup'.out _ _ (r3'.out.cons _)) hrl'.out).mono ?_
        rintro e w6 ⟨rfl, h6⟩
        refine hK _ _ ?_ (fun hHeld => ?_)
        · exact hS'.out _ h6
        clear hK K
        try simp only [Act.put, List.setIfInBounds_toArray, List.set_cons_zero, List.set_cons_succ]
        refine wpF_take 12 (v := ?_) hHeld (by simp only [List.getElem?_toArray, List.getElem?_cons_succ, List.getElem?_cons_zero]; exact rfl) (by kernel_rfl) (by exact fun _ _ _ h => h) (by rfl) ?_ ?_
        rotate_left
        · (intro w hSw; (try dsimp only at hSw); go_simp; try with_reducible rfl)
        try simp only [Act.put, List.setIfInBounds_toArray, List.set_cons_zero, List.set_cons_succ]
        refine wpF_take 13 (v := ?_) hHeld (by simp only [List.getElem?_toArray, List.getElem?_cons_succ, List.getElem?_cons_zero]; exact rfl) (by kernel_rfl) (by exact fun _ _ _ h => h) (by rfl) ?_ ?_
        rotate_left
        · (intro w hSw; (try dsimp only at hSw); go_simp; try with_reducible rfl)
        try simp only [Act.put, List.setIfInBounds_toArray, List.set_cons_zero, List.set_cons_succ]
        refine wpF_done (by kernel_rfl) ?_
--END 35
        have hle := hbr'.out.le1
        have hlt2 := hlt'.out
        have hwr : IntKind.i64.wrap ((k : Int) + 1) = (k : Int) + 1 := by rw [IntKind.wrap_i64]; omega
        go_wp2_with fail
        go_roundw
        case rel => exact ⟨k + 1, by go_num, hlt2, (hM'.out _ h6).both.drop.drop⟩
        case measure => (have hle := hbr'.out.le1; have hlt2 := hlt'.out; simp [intOf]; omega)
      · have hkn : k = ps.length := by omega
        subst hkn
        obtain ⟨A6, c6, hcell⟩ := hbr'.out.refCell
        have hcb := World.block_lt_of_cell? _ _ hcell
        cases hat : atI ps i0 with
        | none =>
          have hi := atI_none hat
          have hat' := Lib.hid hat
          clear hat
          by_cases hneg : i0 < 0
          · have f1 : decide (0 ≤ i0) = false := by simp; omega
            clear hi hneg
            go_wp2_with (first
              | (go_at_call 9; refine (get1b i0 hbr'.out).mono ?_; rintro e w3 ⟨p, t, A3, c3, S3, rfl, r3, h3, ht3, hp3⟩
                 rw [hat'.out] at ht3 hp3
                 simp only [Option.isSome_none, Option.getD_none] at ht3 hp3
                 subst ht3 hp3
                 have h3' := Lib.hid (h3.alloc (.cells #[.int .i64 0, .int .i64 0, .slice A3 ([] : List UInt8).length c3] 30))
                 clear r3 h3)
              | (go_at_call 6; refine (awake_true h3'.out.h).mono ?_; rintro e w4 ⟨rfl, h4⟩))
            go_ret
            exact ⟨rfl, h4.drop.drop⟩
          · have f1 : decide (0 ≤ i0) = true := by simp; omega
            have f2 : decide (i0 < (ps.length : Int)) = false := by simp; omega
            clear hi hneg
            go_wp2_with (first
              | (go_at_call 9; refine (get1b i0 hbr'.out).mono ?_; rintro e w3 ⟨p, t, A3, c3, S3, rfl, r3, h3, ht3, hp3⟩
                 rw [hat'.out] at ht3 hp3
                 simp only [Option.isSome_none, Option.getD_none] at ht3 hp3
                 subst ht3 hp3
                 obtain ⟨A8, c8, hcell2⟩ := h3.refCell
                 have hcb2 := World.block_lt_of_cell? _ _ hcell2
                 have h3' := Lib.hid (h3.alloc (.cells #[.int .i64 0, .int .i64 0, .slice A3 ([] : List UInt8).length c3] 30))
                 clear r3 h3)
              | (go_at_call 6; refine (awake_true h3'.out.h).mono ?_; rintro e w4 ⟨rfl, h4⟩))
            go_ret
            exact ⟨rfl, h4.drop.drop⟩
        | some p1 =>
          obtain ⟨k1, hk1, _, hkl⟩ := atI_some hat
          have f1 : decide (0 ≤ i0) = true := by simp; omega
          have f2 : decide (i0 < (ps.length : Int)) = true := by simp; omega
          have hat' := Lib.hid hat
          clear hat hk1
          go_wp2_with (first
            | (go_at_call 9; refine (get1b i0 hbr'.out).mono ?_; rintro e w3 ⟨p, t, A3, c3, S3, rfl, r3, h3, ht3, hp3⟩
               rw [hat'.out] at ht3 hp3
               simp only [Option.isSome_some, Option.getD_some] at ht3 hp3
               subst ht3
               obtain ⟨A8, c8, hcell2⟩ := h3.refCell
               have hcb2 := World.block_lt_of_cell? _ _ hcell2
               have h3' := Lib.hid (h3.alloc (.cells #[.int .i64 p.f, .int .i64 p.t, .slice A3 p.d.length c3] 30))
               clear r3 h3 hp3)
            | (go_at_call 6; refine (awake_true h3'.out.h).mono ?_; rintro e w4 ⟨rfl, h4⟩))
          go_ret
          exact ⟨rfl, h4.drop.drop⟩
end Go.Proofs.Ytggphdbifjoflaa
