import Derived.Test.YtfhoblchgeijkaaRj
namespace Go.Proofs.Ytfhoblchgeijkaa
open Go.RowKit Go.Maps
variable {W w : World} {L T : List Seg} {v : Value} {l n bs : Bs} {b : Nat} {d : AD} {S : Seg}

def truncG (sz : Int) (f : AF) : AF := { f with data := f.data.take (min sz.toNat f.data.length), dur := min f.dur (min sz.toNat f.data.length) }
def truncF (sz : Int) (n : Bs) : List AF → List AF := updL n (truncG sz)

theorem slice_pre8 {A : Option Addr} {N cap i : Nat} (hi : i ≤ cap) (x : Int) (hx : x = (i : Int)) (w : World) : (Instr.slice 27 (.slice A N cap) none (some (.int .i64 x)) none).run Try.prog w = .ok (.slice A i cap) w := by
  subst hx
  have e3 : (sizeOf 5).run Try.prog w = .ok 1 w := by kernel_rfl
  simp [Instr.slice, run_underlying Try.underlying27, Instr.sliceBounds, Instr.sliceBound, asIntOf, hi, e3, Addr.add]

theorem RS.pre {A : Option Addr} {cap N m : Nat} {xs : List Value} (h : RS L 1 (.slice A N cap) N xs) (hm : m ≤ N) : RS L 1 (.slice A m cap) m (xs.take m) := by
  have hl := h.1
  refine ⟨by rw [List.length_take]; omega, ?_⟩
  rcases h.2 with ⟨h0, _⟩ | ⟨g, o, cap', c, E, fr, h1, h2, h3⟩
  · left; exact ⟨by omega, A, cap, by rw [show m = 0 by omega]⟩
  · simp only [Value.slice.injEq] at h1
    obtain ⟨rfl, _, rfl⟩ := h1
    refine .inr ⟨g, o, cap, c, E, fr, rfl, h2, fun j u hu => h3 j u ?_⟩
    rw [List.getElem?_take] at hu
    split at hu
    · exact hu
    · simp at hu

set_option maxRecDepth 100000 in
set_option maxHeartbeats 6400000 in
theorem rtrunc_good (sz : Int) (h : RDisk W w L b d) (hex : d.existE n = 0) (hwv : d.writes = true) :
    Calls Try.prog 50 #[.pointer (some ⟨b, 0, none⟩), .string (bstr n), .int .i64 sz] w (PErr 0 fun w' => RDisk W w' L b { d.wrote with fs := truncF sz n d.fs }) := by
  obtain ⟨lv, SL, rs, hX, hkX⟩ := h
  obtain ⟨h0, h1, _, hsome⟩ := existE_zero hex
  have ks := nonempty_bstr h0
  have c3 : w.cell? ⟨b, 3, none⟩ = some (.bool false) := by have := hX.cellAt 0 0 3 rfl rfl (v := .bool d.off) rfl; rw [h1] at this; exact this
  have hfl := rfails hX hkX.left
  rw [hwv] at hfl
  clear h0 h1 hex hwv

  have hlen2 : rs.length = d.fs.length := by rw [← hkX.fs, List.length_map]
  obtain ⟨k, hkl, e1, e2, e3, e4⟩ := idx_some (d := d) hsome
  have hkr : k < rs.length := by omega
  have hra : d.fs[k] = rs[k].a := by simp [← hkX.fs]
  have hfd2 := rfind (n := n) hX hkX.row hkX.fs hkX.le
  rw [e1] at hfd2
  have hok := hkX.each _ (List.getElem_mem hkr)
  obtain ⟨Av, cv, hv⟩ := hok.1.form
  have hdlb := hok.2.1
  have hdub := hok.2.2
  have hcont0 := RF.rs (List.getElem_mem hkr) hok L
  obtain ⟨A0, cap0, hlv⟩ := hkX.row.form
  have hupd := updL_set (truncG sz) d.fs k hkl e3 e4
  rw [hra] at hupd
  obtain ⟨rk, hrk⟩ : ∃ rk, rs[k] = rk := ⟨_, rfl⟩
  rw [hrk] at hok hv hdlb hdub hcont0 hupd
  obtain ⟨dl, hdl⟩ : ∃ dl, rk.a.data.length = dl := ⟨_, rfl⟩
  obtain ⟨dt, hdt⟩ : ∃ dt, rk.a.data = dt := ⟨_, rfl⟩
  obtain ⟨du, hdu⟩ : ∃ du, rk.a.dur = du := ⟨_, rfl⟩
  rw [hdl] at hv hdlb hcont0
  rw [hdl, hdu] at hdub
  obtain ⟨tn, htn⟩ : ∃ tn, tn = min sz.toNat dl := ⟨_, rfl⟩
  have hvc : dl ≤ cv := by
    obtain ⟨A9, c9, e9, e10⟩ := hok.1.cap
    rw [hv, hdl] at e9
    simp only [Value.slice.injEq] at e9
    obtain ⟨_, _, rfl⟩ := e9
    omega
  rw [hdt] at hcont0
  have hcells := Lib.hid (show rs[k].cells = [.string (bstr rk.a.name), .slice Av dl cv, .int .i64 du] by rw [hrk]; unfold RF.cells; rw [hv, hdu])
  have hfull := Lib.hid (hkX.row.rs [])
  rw [hlv] at hfull
  have hone := Lib.hid (cells_one hkX.each)
  have hsl : ∀ w, (Instr.slice 27 (.slice Av dl cv) none (some (.int .i64 (tn : Int))) none).run Try.prog w = .ok (.slice Av tn cv) w := fun w => slice_pre8 (by omega) _ rfl w
  have hKX := Lib.hid hkX
  have hHX := Lib.hid hX
  have hu1 := Lib.hid (u8s_one (dt.take tn))
  obtain ⟨N, hN⟩ : ∃ N, rs.length = N := ⟨_, rfl⟩
  have hle2 := hkX.le
  have hki : (k : Int) < (N : Int) := by omega
  have hkn : k < N := by omega
  rw [hN] at hlv hfull hle2
  have x0 : w.cell? ⟨b, 0, none⟩ = some (.slice A0 N cap0) := by rw [← hlv]; exact hX.cellAt 0 0 0 rfl rfl rfl
  have xb : b < w.heap.size := hX.ltAt 0 0 rfl rfl
  have hN' := Lib.hid hN
  have hrk' := Lib.hid hrk
  have hok' := Lib.hid hok
  have hupd' := Lib.hid hupd
  have hdl' := Lib.hid hdl
  have hdt' := Lib.hid hdt
  have hv' := Lib.hid hv
  have hdu' := Lib.hid hdu
  have hcont0' := Lib.hid (show RS (rdatas rs :: L) 1 (.slice Av dl cv) dl (u8s dt) by rw [← hv]; exact hcont0)
  have hlv' := Lib.hid hlv
  have hkr' := Lib.hid hkr
  have hsome' := Lib.hid hsome
  have hlX := hkX.left
  clear hX hkX hlen2 e1 e2 e3 e4 hra hok hv hcont0 hlv hupd hN hrk hdl hdt hdu hsome

  have hmm : max (min sz (dl : Int)) 0 = (tn : Int) := by omega
  have htn' := Lib.hid htn
  have htl : tn ≤ dl := by omega
  rw [hlv'.out] at hfl
  clear htn
  go_enter Try.func50, Try.ntmps50
  go_wp2_with (first
    | (go_at_call 54; refine hfd2.mono ?_; rintro e w' ⟨rfl, rfl⟩)
    | (go_at_call 65; refine hfl.mono ?_; rintro e w1 ⟨rfl, hz⟩
       have m0 : w1.cell? ⟨b, 0, none⟩ = some (.slice A0 N cap0) := hz.cellAt 0 0 0 rfl rfl rfl
       have mb : b < w1.heap.size := hz.ltAt 0 0 rfl rfl
       have hz' := Lib.hid hz
       obtain ⟨g7, cap7, cur7, y1, y2, _, _, y5⟩ := rrow hKX.out.row (by rw [hN'.out]; omega)
       have y6 : A0 = some ⟨g7, 0, none⟩ ∧ cap0 = cap7 := by rw [hlv'.out, hN'.out] at y1; simpa using y1
       obtain ⟨rfl, rfl⟩ := y6
       have m1 : w1.cell? ⟨g7, k * 3 + 1, none⟩ = some (.slice Av dl cv) := hz.cellAt 1 0 _ (by rw [y2]; rfl) rfl (by rw [y5 k hkr'.out 1 (by decide), hcells.out]; rfl)
       clear y1 y2 y5 hz)
    | (at_builtin; refine wpl_append rfl (.tmp 35) (.tmp 39) rfl et41 rfl rfl (hz'.out.alloc (.cells #[] 89)) (hz'.out.lit #[] 0 (by simp [maxLen]) rfl) (hfull.out.up (by simp)) hone.out (by omega) (by omega) ?_; intro A2 c2 w2 S2 h2 h3
       have p1 : w2.cell? ⟨b, 0, none⟩ = some (.slice (some ⟨g7, 0, none⟩) N cap0) := h2.cellAt 1 0 0 rfl rfl rfl
       have p2 : w2.frozen? ⟨b, 0, none⟩ = false := h2.freeAt 1 0 0 rfl rfl
       have h3x := Lib.hid (show OwnS 89 3 (.slice A2 N c2) N (rs.flatMap RF.cells) S2 by simpa using h3)
       have h2x := Lib.hid h2
       clear h2 h3))
  obtain ⟨g2, c2', cur2, q1, q2, _, _, q5⟩ := rrow (by rw [hN'.out]; exact h3x.out) (by rw [hN'.out]; omega)
  obtain ⟨rfl, rfl⟩ : A2 = some ⟨g2, 0, none⟩ ∧ c2 = c2' := by rw [hN'.out] at q1; simpa using q1
  subst q2
  have h3' := Lib.hid (show H W (w2.setCell ⟨b, 0, none⟩ (.slice (some ⟨g2, 0, none⟩) N c2)) (rhdr b d.wrote (.slice (some ⟨g2, 0, none⟩) N c2) :: [(g2, .cells cur2 89 (0, 0))] :: SL :: rdatas rs :: L) from
    (h2x.out.pick 1 rfl).setCell 0 (.slice (some ⟨g2, 0, none⟩) N c2))
  have hcur1 := Lib.hid (show cur2[k * 3 + 1]? = some (.slice Av dl cv) by rw [q5 k hkr'.out 1 (by decide), hcells.out]; rfl)
  have hcur4 := Lib.hid (show cur2[k * 3 + 2]? = some (.int .i64 du) by rw [q5 k hkr'.out 2 (by decide), hcells.out]; rfl)
  clear q1 q5 p1 p2 h2x x0 m0 m1
  generalize w2.setCell ⟨b, 0, none⟩ (.slice (some ⟨g2, 0, none⟩) N c2) = w3 at *

  have hcurz := Lib.hid (show cur2.size = c2 * 3 ∧ k < c2 by
    rcases h3x.out.2 with ⟨z1, _⟩ | ⟨z1, z2, z3, z4, z5, z6, z7, z8, z9⟩
    · simp at z1
    · simp only [Value.slice.injEq, Option.some.injEq, Addr.mk.injEq] at z4
      obtain ⟨⟨rfl, _⟩, _, rfl⟩ := z4
      simp only [List.cons.injEq, Prod.mk.injEq, Obj.cells.injEq] at z5
      obtain ⟨⟨_, rfl, _⟩, _⟩ := z5
      exact ⟨z8, by omega⟩)
  have hcont := Lib.hid (((((hcont0'.out.pre htl).cons SL).cons [(g2, .cells cur2 89 (0, 0))]).cons (rhdr b d.wrote (.slice (some ⟨g2, 0, none⟩) N c2))).cons [(w3.heap.size, .cells #[] 5 (0, 0))])
  rw [show (u8s dt).take tn = u8s (dt.take tn) by simp [u8s]] at hcont
--REGION 12
  refine wpF_start (S := (fun w' => w'.cell? ⟨b, 0, none⟩ = some (.slice (some ⟨g2, 0, none⟩) N c2) ∧ w'.cell? ⟨g2, k * 3 + 1, none⟩ = some (.slice Av dl cv))) (fins := [19]) (by kernel_rfl) ?_ (fun hHeld => ?_)
  · exact ⟨h3'.out.drew.cellAt 0 0 0 rfl rfl rfl, h3'.out.drew.cellAt 1 0 _ rfl rfl hcur1.out⟩
  refine wpF_take 0 (v := ?_) hHeld (by simp only [List.getElem?_toArray, List.getElem?_cons_zero]; exact rfl) (by kernel_rfl) (by exact fun _ _ _ h => h) (by rfl) ?_ ?_
  rotate_left
  · (intro w hSw; (try dsimp only at hSw); go_simp; try with_reducible rfl)
  try simp only [Act.put, List.setIfInBounds_toArray, List.set_cons_zero, List.set_cons_succ]
  refine wpF_take 1 (v := ?_) hHeld (by simp only [List.getElem?_toArray, List.getElem?_cons_succ, List.getElem?_cons_zero]; exact rfl) (by kernel_rfl) (by exact fun _ _ _ h => h) (by rfl) ?_ ?_
  rotate_left
  · (intro w hSw; (try dsimp only at hSw); go_simp; try with_reducible rfl)
  try simp only [Act.put, List.setIfInBounds_toArray, List.set_cons_zero, List.set_cons_succ]
  refine wpF_take 2 (v := ?_) hHeld (by simp only [List.getElem?_toArray, List.getElem?_cons_succ, List.getElem?_cons_zero]; exact rfl) (by kernel_rfl) (by exact fun _ _ _ h => h) (by rfl) ?_ ?_
  rotate_left
  · (intro w hSw; (try dsimp only at hSw); go_simp; try with_reducible rfl)
  try simp only [Act.put, List.setIfInBounds_toArray, List.set_cons_zero, List.set_cons_succ]
  refine wpF_take 3 (v := ?_) hHeld (by simp only [List.getElem?_toArray, List.getElem?_cons_succ, List.getElem?_cons_zero]; exact rfl) (by kernel_rfl) (by exact fun _ _ _ h => h) (by rfl) ?_ ?_
  rotate_left
  · (intro w hSw; (try dsimp only at hSw); go_simp; try with_reducible rfl)
  try simp only [Act.put, List.setIfInBounds_toArray, List.set_cons_zero, List.set_cons_succ]
  refine wpF_take 4 (v := ?_) hHeld (by simp only [List.getElem?_toArray, List.getElem?_cons_succ, List.getElem?_cons_zero]; exact rfl) (by kernel_rfl) (by exact fun _ _ _ h => h) (by rfl) ?_ ?_
  rotate_left
  · (intro w hSw; (try dsimp only at hSw); go_simp; try with_reducible rfl)
  try simp only [Act.put, List.setIfInBounds_toArray, List.set_cons_zero, List.set_cons_succ]
  refine wpF_take 6 (v := ?_) hHeld (by simp only [List.getElem?_toArray, List.getElem?_cons_succ, List.getElem?_cons_zero]; exact rfl) (by kernel_rfl) (by exact fun _ _ _ h => h) (by rfl) ?_ ?_
  rotate_left
  · (intro w hSw; (try dsimp only at hSw); go_simp; try with_reducible rfl)
  try simp only [Act.put, List.setIfInBounds_toArray, List.set_cons_zero, List.set_cons_succ]
  refine wpF_take 7 (v := ?_) hHeld (by simp only [List.getElem?_toArray, List.getElem?_cons_succ, List.getElem?_cons_zero]; exact rfl) (by kernel_rfl) (by exact fun _ _ _ h => h) (by rfl) ?_ ?_
  rotate_left
  · (intro w hSw; (try dsimp only at hSw); go_simp; try with_reducible rfl)
  try simp only [Act.put, List.setIfInBounds_toArray, List.set_cons_zero, List.set_cons_succ]
  refine wpF_take 8 (v := ?_) hHeld (by simp only [List.getElem?_toArray, List.getElem?_cons_succ, List.getElem?_cons_zero]; exact rfl) (by kernel_rfl) (by exact fun _ _ _ h => h) (by rfl) ?_ ?_
  rotate_left
  · (intro w hSw; (try dsimp only at hSw); go_simp; try with_reducible rfl)
  try simp only [Act.put, List.setIfInBounds_toArray, List.set_cons_zero, List.set_cons_succ]
  refine wpF_take 9 (v := ?_) hHeld (by simp only [List.getElem?_toArray, List.getElem?_cons_succ, List.getElem?_cons_zero]; exact rfl) (by kernel_rfl) (by exact fun _ _ _ h => h) (by rfl) ?_ ?_
  rotate_left
  · (intro w hSw; (try dsimp only at hSw); go_simp; try with_reducible rfl)
  try simp only [Act.put, List.setIfInBounds_toArray, List.set_cons_zero, List.set_cons_succ]
  refine wpF_take 10 (v := ?_) hHeld (by simp only [List.getElem?_toArray, List.getElem?_cons_succ, List.getElem?_cons_zero]; exact rfl) (by kernel_rfl) (by exact fun _ _ _ h => h) (by rfl) ?_ ?_
  rotate_left
  · (intro w hSw; (try dsimp only at hSw); go_simp; try with_reducible rfl)
  try simp only [Act.put, List.setIfInBounds_toArray, List.set_cons_zero, List.set_cons_succ]
  refine wpF_take 11 (v := ?_) hHeld (by simp only [List.getElem?_toArray, List.getElem?_cons_succ, List.getElem?_cons_zero]; exact rfl) (by kernel_rfl) (by exact fun _ _ _ h => h) (by rfl) ?_ ?_
  rotate_left
  · (intro w hSw; (try dsimp only at hSw); go_simp; try with_reducible rfl)
  try simp only [Act.put, List.setIfInBounds_toArray, List.set_cons_zero, List.set_cons_succ]
  refine wpF_take 12 (v := ?_) hHeld (by simp only [List.getElem?_toArray, List.getElem?_cons_succ, List.getElem?_cons_zero]; exact rfl) (by kernel_rfl) (by exact fun _ _ _ h => h) (by rfl) ?_ ?_
  rotate_left
  · (intro w hSw; (try dsimp only at hSw); go_simp; try with_reducible rfl)
  try simp only [Act.put, List.setIfInBounds_toArray, List.set_cons_zero, List.set_cons_succ]
  refine wpF_take 13 (v := ?_) hHeld (by simp only [List.getElem?_toArray, List.getElem?_cons_succ, List.getElem?_cons_zero]; exact rfl) (by kernel_rfl) (by exact fun _ _ _ h => h) (by rfl) ?_ ?_
  rotate_left
  · (intro w hSw; (try dsimp only at hSw); go_simp; try with_reducible rfl)
  try simp only [Act.put, List.setIfInBounds_toArray, List.set_cons_zero, List.set_cons_succ]
  refine wpF_take 14 (v := ?_) hHeld (by simp only [List.getElem?_toArray, List.getElem?_cons_succ, List.getElem?_cons_zero]; exact rfl) (by kernel_rfl) (by exact fun _ _ _ h => h) (by rfl) ?_ ?_
  rotate_left
  · (intro w hSw; (try dsimp only at hSw); go_simp; try with_reducible rfl)
  try simp only [Act.put, List.setIfInBounds_toArray, List.set_cons_zero, List.set_cons_succ]
  refine wpF_take 15 (v := ?_) hHeld (by simp only [List.getElem?_toArray, List.getElem?_cons_succ, List.getElem?_cons_zero]; exact rfl) (by kernel_rfl) (by exact fun _ _ _ h => h) (by rfl) ?_ ?_
  rotate_left
  · (intro w hSw; (try dsimp only at hSw); go_simp; try with_reducible rfl)
  try simp only [Act.put, List.setIfInBounds_toArray, List.set_cons_zero, List.set_cons_succ]
  refine wpF_one 5 (by simp only [List.getElem?_toArray, List.getElem?_cons_succ, List.getElem?_cons_zero]; exact rfl) (by kernel_rfl) (fun K hK => ?_)
  go_simp
  refine hK _ _ ?_ (fun hHeld => ?_)
  · exact ⟨(h3'.out.drew.alloc _).cellAt 1 0 0 rfl rfl rfl, (h3'.out.drew.alloc _).cellAt 2 0 _ rfl rfl hcur1.out⟩
  clear hK K
  try simp only [Act.put, List.setIfInBounds_toArray, List.set_cons_zero, List.set_cons_succ]
  refine wpF_one 16 (by simp only [List.getElem?_toArray, List.getElem?_cons_succ, List.getElem?_cons_zero]; exact rfl) (by kernel_rfl) (fun K hK => ?_)
  refine step_append rfl (.tmp 48) (.tmp 58) rfl et27 (by simp [Act.eval]) (by simp [Act.eval]) (h3'.out.drew.alloc (.cells #[] 5)) (h3'.out.drew.lit #[] 0 (by simp [maxLen]) rfl) hcont.out hu1.out (by omega) (by omega) ?_
  intro A5 c5 w5 S5 h5 h6
  simp only [Nat.zero_add, List.nil_append] at h6 ⊢
  have hb5 := h5.ltAt 1 0 rfl rfl
  refine hK _ _ ?_ (fun hHeld => ?_)
  · exact ⟨h5.cellAt 1 0 0 rfl rfl rfl, h5.cellAt 2 0 _ rfl rfl hcur1.out⟩
  clear hK K
  try simp only [Act.put, List.setIfInBounds_toArray, List.set_cons_zero, List.set_cons_succ]
  refine wpF_one 17 (by simp only [List.getElem?_toArray, List.getElem?_cons_succ, List.getElem?_cons_zero]; exact rfl) (by kernel_rfl) (fun K hK => ?_)
  go_simp
  refine hK _ _ ?_ (fun hHeld => ?_)
  · exact hHeld
  clear hK K
  try simp only [Act.put, List.setIfInBounds_toArray, List.set_cons_zero, List.set_cons_succ]
  refine wpF_take 18 (v := ?_) hHeld (by simp only [List.getElem?_toArray, List.getElem?_cons_succ, List.getElem?_cons_zero]; exact rfl) (by kernel_rfl) (by exact fun _ _ _ h => h) (by rfl) ?_ ?_
  rotate_left
  · (intro w hSw; (try dsimp only at hSw); go_simp; try with_reducible rfl)
  try simp only [Act.put, List.setIfInBounds_toArray, List.set_cons_zero, List.set_cons_succ]
  refine wpF_last 19 (by simp only [List.getElem?_toArray, List.getElem?_cons_succ, List.getElem?_cons_zero]; exact rfl) (by kernel_rfl) (by decide) (fun K hK => ?_)
  have g1 : w5.cell? ⟨g2, k * 3 + 1, none⟩ = some (.slice Av dl cv) := h5.cellAt 2 0 _ rfl rfl hcur1.out
  have g2f : w5.frozen? ⟨g2, k * 3 + 1, none⟩ = false := h5.freeAt 2 0 _ rfl rfl
  go_simp
  refine hK _ _ ?_
  clear hK K
  try simp only [Act.put, List.setIfInBounds_toArray, List.set_cons_zero, List.set_cons_succ]
  refine wpF_done (by kernel_rfl) ?_
--END 12
  have h6x := Lib.hid (show H W (w5.setCell ⟨g2, k * 3 + 1, none⟩ (.slice A5 tn c5)) (rhdr b d.wrote (.slice (some ⟨g2, 0, none⟩) N c2) :: [(g2, .cells (cur2.setIfInBounds (k * 3 + 1) (.slice A5 tn c5)) 89 (0, 0))] :: S5 :: SL :: rdatas rs :: L) from
    (show H W _ ([(g2, .cells (cur2.setIfInBounds (k * 3 + 1) (.slice A5 tn c5)) 89 (0, 0))] :: S5 :: rhdr b d.wrote (.slice (some ⟨g2, 0, none⟩) N c2) :: SL :: rdatas rs :: L) from (h5.pick 2 rfl).setCell (k * 3 + 1) (.slice A5 tn c5)).pick 2 rfl)
  have hrow2 := Lib.hid (own_set (rs := rs) (r' := ⟨{ rk.a with data := dt.take tn }, .slice A5 tn c5, S5⟩) h3x.out hkr'.out (j := 1) (u := .slice A5 tn c5) (by decide) (by rw [hcells.out]; show [_, _, _] = _; rw [hdu'.out]; rfl))
  have hcur3 := Lib.hid (show (cur2.setIfInBounds (k * 3 + 1) (.slice A5 tn c5))[k * 3 + 2]? = some (.int .i64 du) by
    rw [Array.getElem?_setIfInBounds_ne (by omega)]; exact hcur4.out)
  have h6' := Lib.hid h6
  clear h5 h6
  go_wp2_with fail
  generalize w5.setCell ⟨g2, k * 3 + 1, none⟩ (.slice A5 tn c5) = w6 at *
--REGION 13
  refine wpF_start (S := (fun w' => w'.cell? ⟨b, 0, none⟩ = some (.slice (some ⟨g2, 0, none⟩) N c2) ∧ w'.cell? ⟨g2, k * 3 + 2, none⟩ = some (.int .i64 du))) (fins := [17]) (by kernel_rfl) ?_ (fun hHeld => ?_)
  · exact ⟨h6x.out.drew.cellAt 0 0 0 rfl rfl rfl, h6x.out.drew.cellAt 1 0 _ rfl rfl hcur3.out⟩
  refine wpF_take 0 (v := ?_) hHeld (by simp only [List.getElem?_toArray, List.getElem?_cons_zero]; exact rfl) (by kernel_rfl) (by exact fun _ _ _ h => h) (by rfl) ?_ ?_
  rotate_left
  · (intro w hSw; (try dsimp only at hSw); go_simp; try with_reducible rfl)
  try simp only [Act.put, List.setIfInBounds_toArray, List.set_cons_zero, List.set_cons_succ]
  refine wpF_take 1 (v := ?_) hHeld (by simp only [List.getElem?_toArray, List.getElem?_cons_succ, List.getElem?_cons_zero]; exact rfl) (by kernel_rfl) (by exact fun _ _ _ h => h) (by rfl) ?_ ?_
  rotate_left
  · (intro w hSw; (try dsimp only at hSw); go_simp; try with_reducible rfl)
  try simp only [Act.put, List.setIfInBounds_toArray, List.set_cons_zero, List.set_cons_succ]
  refine wpF_take 2 (v := ?_) hHeld (by simp only [List.getElem?_toArray, List.getElem?_cons_succ, List.getElem?_cons_zero]; exact rfl) (by kernel_rfl) (by exact fun _ _ _ h => h) (by rfl) ?_ ?_
  rotate_left
  · (intro w hSw; (try dsimp only at hSw); go_simp; try with_reducible rfl)
  try simp only [Act.put, List.setIfInBounds_toArray, List.set_cons_zero, List.set_cons_succ]
  refine wpF_take 3 (v := ?_) hHeld (by simp only [List.getElem?_toArray, List.getElem?_cons_succ, List.getElem?_cons_zero]; exact rfl) (by kernel_rfl) (by exact fun _ _ _ h => h) (by rfl) ?_ ?_
  rotate_left
  · (intro w hSw; (try dsimp only at hSw); go_simp; try with_reducible rfl)
  try simp only [Act.put, List.setIfInBounds_toArray, List.set_cons_zero, List.set_cons_succ]
  refine wpF_take 4 (v := ?_) hHeld (by simp only [List.getElem?_toArray, List.getElem?_cons_succ, List.getElem?_cons_zero]; exact rfl) (by kernel_rfl) (by exact fun _ _ _ h => h) (by rfl) ?_ ?_
  rotate_left
  · (intro w hSw; (try dsimp only at hSw); go_simp; try with_reducible rfl)
  try simp only [Act.put, List.setIfInBounds_toArray, List.set_cons_zero, List.set_cons_succ]
  refine wpF_take 5 (v := ?_) hHeld (by simp only [List.getElem?_toArray, List.getElem?_cons_succ, List.getElem?_cons_zero]; exact rfl) (by kernel_rfl) (by exact fun _ _ _ h => h) (by rfl) ?_ ?_
  rotate_left
  · (intro w hSw; (try dsimp only at hSw); go_simp; try with_reducible rfl)
  try simp only [Act.put, List.setIfInBounds_toArray, List.set_cons_zero, List.set_cons_succ]
  refine wpF_take 6 (v := ?_) hHeld (by simp only [List.getElem?_toArray, List.getElem?_cons_succ, List.getElem?_cons_zero]; exact rfl) (by kernel_rfl) (by exact fun _ _ _ h => h) (by rfl) ?_ ?_
  rotate_left
  · (intro w hSw; (try dsimp only at hSw); go_simp; try with_reducible rfl)
  try simp only [Act.put, List.setIfInBounds_toArray, List.set_cons_zero, List.set_cons_succ]
  refine wpF_take 7 (v := ?_) hHeld (by simp only [List.getElem?_toArray, List.getElem?_cons_succ, List.getElem?_cons_zero]; exact rfl) (by kernel_rfl) (by exact fun _ _ _ h => h) (by rfl) ?_ ?_
  rotate_left
  · (intro w hSw; (try dsimp only at hSw); go_simp; try with_reducible rfl)
  try simp only [Act.put, List.setIfInBounds_toArray, List.set_cons_zero, List.set_cons_succ]
  refine wpF_take 8 (v := ?_) hHeld (by simp only [List.getElem?_toArray, List.getElem?_cons_succ, List.getElem?_cons_zero]; exact rfl) (by kernel_rfl) (by exact fun _ _ _ h => h) (by rfl) ?_ ?_
  rotate_left
  · (intro w hSw; (try dsimp only at hSw); go_simp; try with_reducible rfl)
  try simp only [Act.put, List.setIfInBounds_toArray, List.set_cons_zero, List.set_cons_succ]
  refine wpF_take 9 (v := ?_) hHeld (by simp only [List.getElem?_toArray, List.getElem?_cons_succ, List.getElem?_cons_zero]; exact rfl) (by kernel_rfl) (by exact fun _ _ _ h => h) (by rfl) ?_ ?_
  rotate_left
  · (intro w hSw; (try dsimp only at hSw); go_simp; try with_reducible rfl)
  try simp only [Act.put, List.setIfInBounds_toArray, List.set_cons_zero, List.set_cons_succ]
  refine wpF_take 10 (v := ?_) hHeld (by simp only [List.getElem?_toArray, List.getElem?_cons_succ, List.getElem?_cons_zero]; exact rfl) (by kernel_rfl) (by exact fun _ _ _ h => h) (by rfl) ?_ ?_
  rotate_left
  · (intro w hSw; (try dsimp only at hSw); go_simp; try with_reducible rfl)
  try simp only [Act.put, List.setIfInBounds_toArray, List.set_cons_zero, List.set_cons_succ]
  refine wpF_take 11 (v := ?_) hHeld (by simp only [List.getElem?_toArray, List.getElem?_cons_succ, List.getElem?_cons_zero]; exact rfl) (by kernel_rfl) (by exact fun _ _ _ h => h) (by rfl) ?_ ?_
  rotate_left
  · (intro w hSw; (try dsimp only at hSw); go_simp; try with_reducible rfl)
  try simp only [Act.put, List.setIfInBounds_toArray, List.set_cons_zero, List.set_cons_succ]
  refine wpF_take 12 (v := ?_) hHeld (by simp only [List.getElem?_toArray, List.getElem?_cons_succ, List.getElem?_cons_zero]; exact rfl) (by kernel_rfl) (by exact fun _ _ _ h => h) (by rfl) ?_ ?_
  rotate_left
  · (intro w hSw; (try dsimp only at hSw); go_simp; try with_reducible rfl)
  try simp only [Act.put, List.setIfInBounds_toArray, List.set_cons_zero, List.set_cons_succ]
  refine wpF_take 13 (v := ?_) hHeld (by simp only [List.getElem?_toArray, List.getElem?_cons_succ, List.getElem?_cons_zero]; exact rfl) (by kernel_rfl) (by exact fun _ _ _ h => h) (by rfl) ?_ ?_
  rotate_left
  · (intro w hSw; (try dsimp only at hSw); go_simp; try with_reducible rfl)
  try simp only [Act.put, List.setIfInBounds_toArray, List.set_cons_zero, List.set_cons_succ]
  refine wpF_take 14 (v := ?_) hHeld (by simp only [List.getElem?_toArray, List.getElem?_cons_succ, List.getElem?_cons_zero]; exact rfl) (by kernel_rfl) (by exact fun _ _ _ h => h) (by rfl) ?_ ?_
  rotate_left
  · (intro w hSw; (try dsimp only at hSw); go_simp; try with_reducible rfl)
  try simp only [Act.put, List.setIfInBounds_toArray, List.set_cons_zero, List.set_cons_succ]
  refine wpF_one 15 (by simp only [List.getElem?_toArray, List.getElem?_cons_succ, List.getElem?_cons_zero]; exact rfl) (by kernel_rfl) (fun K hK => ?_)
  go_simp
  refine hK _ _ ?_ (fun hHeld => ?_)
  · exact hHeld
  clear hK K
  try simp only [Act.put, List.setIfInBounds_toArray, List.set_cons_zero, List.set_cons_succ]
  refine wpF_take 16 (v := ?_) hHeld (by simp only [List.getElem?_toArray, List.getElem?_cons_succ, List.getElem?_cons_zero]; exact rfl) (by kernel_rfl) (by exact fun _ _ _ h => h) (by rfl) ?_ ?_
  rotate_left
  · (intro w hSw; (try dsimp only at hSw); go_simp; try with_reducible rfl)
  try simp only [Act.put, List.setIfInBounds_toArray, List.set_cons_zero, List.set_cons_succ]
  refine wpF_last 17 (by simp only [List.getElem?_toArray, List.getElem?_cons_succ, List.getElem?_cons_zero]; exact rfl) (by kernel_rfl) (by decide) (fun K hK => ?_)
  have g1 : w6.drew.cell? ⟨g2, k * 3 + 2, none⟩ = some (.int .i64 du) := h6x.out.drew.cellAt 1 0 _ rfl rfl hcur3.out
  have g1b : w6.cell? ⟨g2, k * 3 + 2, none⟩ = some (.int .i64 du) := h6x.out.cellAt 1 0 _ rfl rfl hcur3.out
  have g2f : w6.drew.frozen? ⟨g2, k * 3 + 2, none⟩ = false := h6x.out.drew.freeAt 1 0 _ rfl rfl
  have g2g : w6.frozen? ⟨g2, k * 3 + 2, none⟩ = false := h6x.out.freeAt 1 0 _ rfl rfl
  go_simp
  refine hK _ _ ?_
  clear hK K
  try simp only [Act.put, List.setIfInBounds_toArray, List.set_cons_zero, List.set_cons_succ]
  refine wpF_done (by kernel_rfl) ?_
--END 13
  go_wp2_with fail
  go_ret
  have hmn : min (du : Int) (tn : Int) = ((min du tn : Nat) : Int) := by omega
  rw [hmn]
  have hf := (h6x.out.drew.pick 1 rfl).setCell (k * 3 + 2) (.int .i64 ((min du tn : Nat) : Int))
  have hrow3 := own_set (rs := rs.set k ⟨{ rk.a with data := dt.take tn }, .slice A5 tn c5, S5⟩) (k := k) (r' := ⟨⟨rk.a.name, dt.take tn, min du tn⟩, .slice A5 tn c5, S5⟩) hrow2.out (by rw [List.length_set]; exact hkr'.out) (j := 2) (u := .int .i64 ((min du tn : Nat) : Int)) (by decide) (by rw [List.getElem_set_self]; rfl)
  rw [List.set_set] at hrow3
  have hdl2 : dt.length = dl := by rw [← hdt'.out]; exact hdl'.out
  have htk : (dt.take tn).length = tn := by rw [List.length_take]; omega
  refine ⟨rfl, ?_⟩
  refine rdisk_set (r' := ⟨⟨rk.a.name, dt.take tn, min du tn⟩, .slice A5 tn c5, S5⟩) hKX.out hkr'.out (by rw [hN'.out]; exact hrow3) ⟨?_, ?_, ?_⟩ ?_ (wrote_left hlX) ?_
  · have h10 := h6'.out
    show OwnS 5 1 (.slice A5 tn c5) (dt.take tn).length (u8s (dt.take tn)) S5
    rw [htk]; exact h10
  · show (dt.take tn).length ≤ _
    rw [htk]; omega
  · show min du tn ≤ (dt.take tn).length
    rw [htk]; omega
  · show truncF sz n d.fs = _
    unfold truncF
    rw [hupd'.out]
    congr 1
    unfold truncG
    rw [hdt'.out, hdu'.out, hdl2, ← htn'.out]
  · rw [rhdr_fs]
    have h11 := (show H W _ ([(g2, .cells ((cur2.setIfInBounds (k * 3 + 1) (.slice A5 tn c5)).setIfInBounds (k * 3 + 2) (.int .i64 ((min du tn : Nat) : Int))) 89 (0, 0))] :: rhdr b d.wrote (.slice (some ⟨g2, 0, none⟩) N c2) :: S5 :: SL :: rdatas rs :: L) from hf)
    have h12 := (h11.pick 3 rfl).drop
    exact (show H W _ ([(g2, .cells ((cur2.setIfInBounds (k * 3 + 1) (.slice A5 tn c5)).setIfInBounds (k * 3 + 2) (.int .i64 ((min du tn : Nat) : Int))) 89 (0, 0))] :: rhdr b d.wrote (.slice (some ⟨g2, 0, none⟩) N c2) :: S5 :: rdatas rs :: L) from h12).re (by intro c hc h0; simp only [List.flatten_cons, hc]; omega)

theorem rtrunc_disk (sz : Int) (h : RDisk W w L b d) : Calls Try.prog 50 #[.pointer (some ⟨b, 0, none⟩), .string (bstr n), .int .i64 sz] w (PErr (d.chgE n) fun w' => RDisk W w' L b (d.chg n (truncF sz n))) :=
  rchg_split (rtrunc_early sz h (truncF sz n)) (rtrunc_good sz h)
end Go.Proofs.Ytfhoblchgeijkaa
