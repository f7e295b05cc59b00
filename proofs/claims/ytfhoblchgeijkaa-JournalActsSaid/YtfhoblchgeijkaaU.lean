import Derived.Test.YtfhoblchgeijkaaT
namespace Go.Proofs.Ytfhoblchgeijkaa
open Go.RowKit Go.Maps
variable {W w : World} {L T : List Seg} {v : Value} {l n bs : Bs} {b M : Nat} {d : AD} {SM X S : Seg} {rs rs1 rs2 : List FR} {r : FR} {fs : List (Bs × Nat)}

def AD.calm (d : AD) : AD := ⟨d.fs, false, false, 0⟩
def AD.crash (d : AD) (ps : List Int) : AD := ⟨crashL ps d.fs, false, false, 0⟩

theorem OwnS.get {E : TypeId} {N : Nat} {A : Option Addr} {cap : Nat} {xs : List Value} {S : Seg} (h : OwnS E 1 (.slice A N cap) N xs S) (hN : 0 < N) (hH : H W w L) (hS : ∀ p ∈ S, p ∈ L.flatten) :
    ∃ g, A = some ⟨g, 0, none⟩ ∧ ∀ k u, xs[k]? = some u → w.cell? ⟨g, k, none⟩ = some u := by
  rcases h.2 with ⟨h1, h2, _⟩ | ⟨g, cap', cur, h1, rfl, h3, h4, h5, h6⟩
  · omega
  · simp only [Value.slice.injEq] at h1
    obtain ⟨rfl, _, rfl⟩ := h1
    refine ⟨g, rfl, fun k u hk => ?_⟩
    refine hH.cell (hS (g, .cells cur E (0, 0)) (by simp)) (i := k) ?_
    rw [← h6, List.getElem?_take] at hk
    split at hk
    · simpa using hk
    · simp at hk

theorem bits_xor_u8 (a c : UInt8) : bits .xor .u8 (a.toNat : Int) (c.toNat : Int) = ((a ^^^ c).toNat : Int) := by
  have h : ∀ x : UInt8, BitVec.ofInt IntKind.u8.bits (x.toNat : Int) = x.toBitVec := by
    intro x; apply BitVec.eq_of_toNat_eq; simp [IntKind.bits]
  unfold bits
  simp only [h]
  show IntKind.u8.wrap (((a ^^^ c).toNat : Nat) : Int) = _
  have hlt := (a ^^^ c).toNat_lt
  generalize (a ^^^ c).toNat = x at hlt ⊢
  simp [IntKind.wrap, IntKind.signed, IntKind.bits]
  omega
theorem xor255 (x : UInt8) : bits .xor .u8 (x.toNat : Int) 255 = ((x ^^^ 255 : UInt8).toNat : Int) := bits_xor_u8 x 255

theorem run_index8 (g e n c : Nat) (x : Int) (hx : x = (e : Int)) (he : e < n) (w : World) :
    (Instr.indexAt 27 (.slice (some ⟨g, 0, none⟩) n c) (.int .i64 x)).run Try.prog w = .ok (.pointer (some ⟨g, e, none⟩)) w := by
  subst hx
  have h1 : (0 : Int) ≤ (e : Int) ∧ (e : Int) < (n : Int) := by omega
  simp [go_sem, Try.sizeOf5, h1, Addr.add]
  intro h0; exact h0.symm

theorem clear8_none (g : Nat) (w : World) : (Builtin.clear_ #[27] 0 #[.slice (some ⟨g, 0, none⟩) 0 0]).run Try.prog w = .ok (.tuple #[]) w := by
  simp [Builtin.clear_, run_underlying Try.underlying27]

theorem clear8 {g : Nat} {cur : Array Value} (h : H W w ([(g, .cells cur 5 (0, 0))] :: L)) {off k c : Nat} (hk : 0 < k) (hfit : off + k ≤ cur.size) :
    ∃ w', (Builtin.clear_ #[27] 0 #[.slice (some ⟨g, off, none⟩) k c]).run Try.prog w = .ok (.tuple #[]) w' ∧ H W w' ([(g, .cells (spl cur.toList off (Builtin.zeroCells (Value.int .u8 0).cells k).toList).toArray 5 (0, 0))] :: L) := by
  obtain ⟨i, hi, h1, h2, h3⟩ := info_parts i5
  exact h.clear Try.underlying27 hi h1 hk (by rw [size_zeroCells]; simpa [Value.cells] using hfit) (zc8_one k) 0

set_option maxHeartbeats 6400000 in
set_option maxRecDepth 100000 in
theorem crash_disk {vp : Value} {ps : List Int} (h : Disk W w L b d) (hr : RI L vp ps) (hnl : ∀ f ∈ d.fs, f.name.length ≤ maxLen) : Calls Try.prog 14 #[.pointer (some ⟨b, 0, none⟩), vp] w (PVoid fun w' => Disk W w' L b (d.crash ps)) := by
  obtain ⟨M, SM, rs, h, hk⟩ := h
  obtain ⟨Ap, cp, rfl, _⟩ := hr.room
  have hb := h.ltAt 0 0 rfl rfl
  have c0 : w.cell? ⟨b, 0, none⟩ = some (.map (some M)) := h.cellAt 0 0 0 rfl rfl rfl
  have c1 : w.cell? ⟨b, 1, none⟩ = some (.bool d.off) := h.cellAt 0 0 1 rfl rfl rfl
  have c2 : w.cell? ⟨b, 2, none⟩ = some (.bool d.armed) := h.cellAt 0 0 2 rfl rfl rfl
  have c3 : w.cell? ⟨b, 3, none⟩ = some (.int .i64 d.left) := h.cellAt 0 0 3 rfl rfl rfl
  have f1 := fun k => h.freeAt 0 0 k rfl rfl
  obtain ⟨N, hN⟩ : ∃ N, N = d.fs.length := ⟨_, rfl⟩
  have hNle : N ≤ 1099511627776 := by have := hk.le; have h2 := congrArg List.length hk.fs; rw [List.length_map] at h2; omega
  have hD : Disk W ((((w.setCell ⟨b, 1, none⟩ (.bool false)).setCell ⟨b, 2, none⟩ (.bool false)).setCell ⟨b, 3, none⟩ (.int .i64 0)).alloc (.cells #[.slice Ap ps.length cp] 82)) (csg w.heap.size (.slice Ap ps.length cp) :: L) b d.calm := by
    refine ⟨M, SM, rs, ?_, hk.map, hk.each, hk.fs, by show (0 : Nat) < _; decide, hk.le⟩
    have h2 := ((((h.setCell 1 (.bool false)).setCell 2 (.bool false)).setCell 3 (.int .i64 0)).alloc (.cells #[.slice Ap ps.length cp] 82)).tail3
    simp only [World.size_setCell] at h2
    exact h2
  have hF := (files_disk hD).mono (R' := fun e w' => ∃ A cap S, e = .returned (.slice A N cap) ∧ Disk W w' (S :: csg w.heap.size (.slice Ap ps.length cp) :: L) b d.calm ∧ OwnS 9 1 (.slice A N cap) N (d.fs.map fun f => .string (bstr f.name)) S)
    (by subst hN; exact fun e w' h => h)
  have hr' := Lib.hid hr
  have hnl' := Lib.hid hnl
  clear h hr hk hnl hD
  go_enter Try.func14, Try.ntmps14
  go_wp2_with (go_at_call 39; refine hF.mono ?_; rintro e w1 ⟨A, cap, SN, rfl, h1, h2⟩)
  clear hF c0 c1 c2 c3 f1
  obtain ⟨M2, SM2, rs2, h3, hk2⟩ := h1
  rw [show dhdr b M2 d.calm = chdr b M2 from rfl] at h3
  have hinv := Lib.hid (show CInv W L b w.heap.size M2 SM2 SN ps d.fs 0 w1 from
    ⟨_, rs2, h3.re (by intro c hc h0; simp only [List.flatten_cons, hc]; omega), hr'.out, hk2.map, hk2.each, hk2.fs, hk2.le⟩)
  have h2' := Lib.hid h2
  clear h2 h3 hk2
  go_loopw [28] (fun i wr => ∃ k : Nat, k ≤ N ∧ i = .int .i64 k ∧ CInv W L b w.heap.size M2 SM2 SN ps d.fs k wr) (fun i _ => N - (intOf i).toNat)
  case atStart => exact ⟨0, Nat.zero_le _, rfl, hinv.out⟩
  case round =>
    obtain ⟨k, hk, rfl, hc⟩ := hrel
    have hc' := Lib.hid hc
    clear hc hinv
    by_cases hlt : k < N
    · have hkf : k < d.fs.length := by omega
      have hki : (k : Int) < (N : Int) := by omega
      obtain ⟨vp, rs1, r, rs2, q1, q2, q3, q4, q5, q6⟩ := hc'.out.open hkf (hnl'.out _ (List.getElem_mem hkf))
      obtain ⟨g0, rfl, hcell⟩ := h2'.out.get (by omega) q1 (by intro p hp; simp only [List.flatten_cons, List.mem_append]; simp [hp])
      have hnm := hcell k (.string (bstr d.fs[k].name)) (by simp [hkf])
      have k0 : wr.cell? ⟨b, 0, none⟩ = some (.map (some M2)) := q1.cellAt 3 0 0 rfl rfl rfl
      have hq1 := Lib.hid q1
      have hq6 := Lib.hid q6
      clear hcell q1 q6 hc'
      obtain ⟨Ar, cr, hrv, hrc⟩ := q3.1.form
      have k1 : wr.cell? ⟨r.blk, 0, none⟩ = some (.slice Ar r.a.data.length cr) := by have := hq1.out.cellAt 1 0 0 rfl rfl (v := r.v) rfl; rw [hrv] at this; exact this
      have k2 : wr.cell? ⟨r.blk, 1, none⟩ = some (.int .i64 r.a.dur) := hq1.out.cellAt 1 0 1 rfl rfl rfl
      have hd1 := q3.2.1
      have hd2 := q3.2.2
      have hq3 := Lib.hid q3
      have hq4 := Lib.hid q4
      clear q3 q4
      by_cases ht : r.a.data.length = r.a.dur
      · go_wp2_with fail
        go_quiet (fail)
        go_wp2_with fail
        refine ⟨⟨k + 1, by omega, by go_num, ?_⟩, by simp [intOf]; omega⟩
        refine hq6.out _ ⟨vp, .slice Ar r.a.data.length cr, r.S, ?_, ?_, ?_⟩
        · rw [← hrv, show (crash1 (picksL ps (List.take k d.fs)) r.a) = r.a by unfold crash1; rw [if_pos ht]]
          exact hq1.out.drewN nq
        · unfold crashP; rw [if_pos ht]; exact q2
        · rw [← hrv, show (crash1 (picksL ps (List.take k d.fs)) r.a) = r.a by unfold crash1; rw [if_pos ht]]
          exact hq3.out.1
      · obtain ⟨pp, hpp⟩ : ∃ pp, pp = picksL ps (List.take k d.fs) := ⟨_, rfl⟩
        rw [← hpp] at q2 hq6
        have hcp : crashP pp r.a = pp.tail.tail := by unfold crashP; rw [if_neg ht]
        have hc1 : crash1 pp r.a = { r.a with data := dmgL (belowV pp.tail 3) (belowV pp (r.a.data.length - r.a.dur + 1)) (r.a.data.take (r.a.dur + belowV pp (r.a.data.length - r.a.dur + 1))), dur := r.a.dur + belowV pp (r.a.data.length - r.a.dur + 1) } := by
          unfold crash1; rw [if_neg ht]
        rw [hcp, hc1] at hq6
        have hK := belowV_lt pp (r.a.data.length - r.a.dur + 1) (by omega)
        have hG := belowV_lt pp.tail 3 (by omega)
        generalize hKe : belowV pp (r.a.data.length - r.a.dur + 1) = K at *
        generalize hGe : belowV pp.tail 3 = G at *
        obtain ⟨g, cap2, cur, hv2, hS2, s3, s4, s5, s6⟩ := hq3.out.1.some (by omega)
        have hGe' := Lib.hid hGe
        have hKe' := Lib.hid hKe
        have hpp' := Lib.hid hpp
        have hcur := Lib.hid (show _ ∧ _ ∧ _ from ⟨hv2, hS2, s6⟩)
        obtain ⟨rfl, _, rfl⟩ : Ar = some ⟨g, 0, none⟩ ∧ r.a.data.length = r.a.data.length ∧ cr = cap2 := by rw [hrv] at hv2; simpa using hv2
        have hq2 := Lib.hid q2
        have e0 : (((r.a.data.length : Int) - (r.a.dur : Int)) == 0) = false := by simp; omega
        clear hpp hGe hKe q2 hv2 hS2 s6 hrv hcp hc1
        go_wp2_with fail
        go_quiet (fail)
        go_wp2_with fail
        refine (below_at (hq1.out.drewN nq) hq2.out (by intro p hp; simp only [List.flatten_cons, List.mem_append]; simp [hp]) (n := r.a.data.length - r.a.dur + 1) (by omega) (by omega) (by omega)).mono ?_
        rintro e w2 ⟨vp1, rfl, h5, h6⟩
        rw [hKe'.out]
        have hb2 := below_any (n := 3) h5 h6 (by intro p hp; simp only [List.flatten_cons, List.mem_append]; simp [hp]) (by omega) (by omega)
        have h5' := Lib.hid h5
        clear h5 h6
        go_wp2_with fail
        refine hb2.mono ?_
        rintro e w3 ⟨vp2, rfl, h7, h8⟩
        rw [hGe'.out]
        have j1 : w3.cell? ⟨r.blk, 0, none⟩ = some (.slice (some ⟨g, 0, none⟩) r.a.data.length cr) := by have := h7.cellAt 1 0 0 rfl rfl (v := r.v) rfl; rw [hcur.out.1] at this; exact this
        have j2 : w3.cell? ⟨r.blk, 1, none⟩ = some (.int .i64 r.a.dur) := h7.cellAt 1 0 1 rfl rfl rfl
        have j3 := fun k => h7.freeAt 1 0 k rfl rfl
        have h7' := Lib.hid h7
        have h8' := Lib.hid h8
        clear h7 h8 hb2 h5'
        obtain ⟨E, hE⟩ : ∃ E, E = r.a.dur + K := ⟨_, rfl⟩
        have eE := Lib.hid (show (r.a.dur : Int) + (K : Int) = (E : Int) by omega)
        have hEc : (r.a.dur : Int) + (K : Int) ≤ (cr : Int) := by omega
        have hE2 : E ≤ 1099511627776 := by omega
        have hgb : g ≠ r.blk := by
          have h9 := h7'.out.drop.swap
          rw [hcur.out.2.1] at h9
          exact h9.neq 0 0 0 rfl rfl rfl
        have hcut := Lib.hid (cut_keep (r.a.dur + K) (by omega) s3 s4 s5 hcur.out.2.2 (g := g))
        have hlE : (List.take (r.a.dur + K) r.a.data).length = r.a.dur + K := by rw [List.length_take]; omega
        have hlE' := Lib.hid hlE
        clear hlE
        by_cases hg2 : G = 2
        · subst hg2
          by_cases hK0 : K = 0
          · subst hK0
            have hcl := clear8_none g
            have hend := Lib.hid (show _ from hq6.out _ ⟨vp2, .slice (some ⟨g, 0, none⟩) (r.a.dur + 0) (r.a.dur + 0), r.S,
              (((h7'.out.pick 1 rfl).setCell 0 (.slice (some ⟨g, 0, none⟩) (r.a.dur + 0) (r.a.dur + 0))).setCell 1 (.int .i64 ((r.a.dur + 0 : Nat) : Int))).swap, h8'.out, by
                have hd : dmgL 2 0 (List.take (r.a.dur + 0) r.a.data) = List.take (r.a.dur + 0) r.a.data := by
                  unfold dmgL; rw [if_neg (by simp), if_pos rfl, hlE'.out, Nat.zero_min, List.replicate_zero, List.append_nil, List.take_of_length_le (by rw [hlE'.out]; omega)]
                rw [hd, hcur.out.2.1]
                exact hcut.out⟩)
            have e1 : min (0 : Int) 8 = 0 := rfl
            go_wp2_with fail
            all_goals (
              refine ⟨⟨k + 1, by omega, by go_num, ?_⟩, by simp [intOf]; omega⟩
              have := hend.out
              simp only [Nat.add_zero] at this
              exact this)
          · obtain ⟨K8, hK8⟩ : ∃ K8, K8 = min K 8 := ⟨_, rfl⟩
            obtain ⟨F, hF⟩ : ∃ F, F = r.a.dur + K - K8 := ⟨_, rfl⟩
            have e1 : min (K : Int) 8 = (K8 : Int) := by omega
            have e2 : ((r.a.dur : Int) + (K : Int) - (K8 : Int)).toNat = F := by omega
            have e3 : r.a.dur + K - F = K8 := by omega
            have e4 : ¬ (r.a.dur + K = F) := by omega
            have hK8' := Lib.hid hK8
            have hF' := Lib.hid hF
            have h9 := h7'.out
            rw [hcur.out.2.1] at h9
            obtain ⟨w4, hclr, h10⟩ := clear8 (((h9.pick 1 rfl).setCell 0 (.slice (some ⟨g, 0, none⟩) (r.a.dur + K) (r.a.dur + K))).pick 2 rfl) (off := F) (k := K8) (c := K8) (by omega) (by omega)
            have m1 : w4.cell? ⟨r.blk, 1, none⟩ = some (.int .i64 r.a.dur) := h10.cellAt 1 0 1 rfl rfl rfl
            have m2 : w4.frozen? ⟨r.blk, 1, none⟩ = false := h10.freeAt 1 0 1 rfl rfl
            have h10' := Lib.hid h10
            clear hK8 hF h9 h10
            have hend := Lib.hid (show _ from hq6.out (w4.setCell ⟨r.blk, 1, none⟩ (.int .i64 ((r.a.dur + K : Nat) : Int)))
              ⟨vp2, .slice (some ⟨g, 0, none⟩) (r.a.dur + K) (r.a.dur + K), [(g, .cells (spl cur.toList (r.a.dur + K - K8) (Builtin.zeroCells (Value.int .u8 0).cells K8).toList).toArray 5 (0, 0))], by
                have h11 := (h10'.out.pick 1 rfl).setCell 1 (.int .i64 ((r.a.dur + K : Nat) : Int))
                rw [hF'.out] at h11
                have h12 : H W _ ([(r.blk, .cells #[.slice (some ⟨g, 0, none⟩) (r.a.dur + K) (r.a.dur + K), .int .i64 ((r.a.dur + K : Nat) : Int)] 77 (0, 0))] :: [(g, .cells (spl cur.toList (r.a.dur + K - K8) (Builtin.zeroCells (Value.int .u8 0).cells K8).toList).toArray 5 (0, 0))] :: csg w.heap.size vp2 :: chdr b M2 :: SN :: SM2 :: frs rs2 :: frs rs1 :: L) := h11
                exact h12.re (by intro c hc h0; simp only [List.flatten_cons, hc]; omega), h8'.out, by
                have hd : dmgL 2 K (List.take (r.a.dur + K) r.a.data) = (List.take (r.a.dur + K) r.a.data).take ((List.take (r.a.dur + K) r.a.data).length - K8) ++ List.replicate K8 0 := by
                  unfold dmgL; rw [if_neg (by simp), if_pos rfl, hK8'.out]
                rw [hd]
                exact cut_clear K8 (by rw [hK8'.out]; omega) hcut.out⟩)
            go_wp2_with fail
            all_goals (
              refine ⟨⟨k + 1, by omega, by go_num, ?_⟩, by simp [intOf]; omega⟩
              have := hend.out
              rw [Int.natCast_add] at this
              exact this)
        · by_cases hg1 : G = 1 ∧ 0 < K
          · obtain ⟨hG1, hK0⟩ := hg1
            have n1 : ((G : Int) == 1) = true := by simp; omega
            have hG1' := Lib.hid hG1
            clear hG1 hG
            have hKi : (0 : Int) < (K : Int) := by omega
            have hby := (cut_byte (r.a.dur + K - 1) (by omega) hcut.out).1
            obtain ⟨by0, hb0⟩ : ∃ y : UInt8, y = (List.take (r.a.dur + K) r.a.data).getD (r.a.dur + K - 1) 0 := ⟨_, rfl⟩
            rw [← hb0] at hby
            obtain ⟨E1, hE1⟩ : ∃ E1, E1 = r.a.dur + K - 1 := ⟨_, rfl⟩
            rw [← hE1] at hby hb0
            have j4 : w3.cell? ⟨g, E1, none⟩ = some (.int .u8 by0.toNat) := by
              refine h7'.out.cellAt 2 0 _ rfl (E := 5) (fr := (0, 0)) ?_ hby
              rw [hcur.out.2.1]; rfl
            have j5 : w3.frozen? ⟨g, E1, none⟩ = false := by
              refine h7'.out.freeAt 2 0 _ rfl (c := cur) (E := 5) ?_
              rw [hcur.out.2.1]; rfl
            have hia : ∀ w, (Instr.indexAt 27 (.slice (some ⟨g, 0, none⟩) (r.a.dur + K) (r.a.dur + K)) (.int .i64 ((r.a.dur : Int) + (K : Int) - 1))).run Try.prog w = .ok (.pointer (some ⟨g, E1, none⟩)) w := by
              intro w
              exact run_index8 g E1 _ _ _ (by omega) (by omega) w
            have hE1' := Lib.hid hE1
            clear hE1
            have hbb := Lib.hid hb0
            clear hb0 hby
            have hend := Lib.hid (show _ from hq6.out (((w3.setCell ⟨r.blk, 0, none⟩ (.slice (some ⟨g, 0, none⟩) (r.a.dur + K) (r.a.dur + K))).setCell ⟨g, E1, none⟩ (.int .u8 (bits .xor .u8 (by0.toNat : Int) 255))).setCell ⟨r.blk, 1, none⟩ (.int .i64 ((r.a.dur + K : Nat) : Int)))
              ⟨vp2, .slice (some ⟨g, 0, none⟩) (r.a.dur + K) (r.a.dur + K), [(g, .cells (cur.setIfInBounds E1 (.int .u8 ((by0 ^^^ 255 : UInt8).toNat : Int))) 5 (0, 0))], by
                have h9 := h7'.out
                rw [hcur.out.2.1] at h9
                have h10 := ((((h9.pick 1 rfl).setCell 0 (.slice (some ⟨g, 0, none⟩) (r.a.dur + K) (r.a.dur + K))).pick 2 rfl).setCell E1 (.int .u8 (bits .xor .u8 (by0.toNat : Int) 255)))
                have h11 := (h10.pick 1 rfl).setCell 1 (.int .i64 ((r.a.dur + K : Nat) : Int))
                rw [xor255] at h11 ⊢
                have h12 : H W _ ([(r.blk, .cells #[.slice (some ⟨g, 0, none⟩) (r.a.dur + K) (r.a.dur + K), .int .i64 ((r.a.dur + K : Nat) : Int)] 77 (0, 0))] :: [(g, .cells (cur.setIfInBounds E1 (.int .u8 ((by0 ^^^ 255 : UInt8).toNat : Int))) 5 (0, 0))] :: csg w.heap.size vp2 :: chdr b M2 :: SN :: SM2 :: frs rs2 :: frs rs1 :: L) := h11
                exact h12.re (by intro c hc h0; simp only [List.flatten_cons, hc]; omega), h8'.out, by
                have hd : dmgL G K (List.take (r.a.dur + K) r.a.data) = (List.take (r.a.dur + K) r.a.data).set E1 (by0 ^^^ 255) := by
                  unfold dmgL; rw [if_pos ⟨hG1'.out, hK0⟩, hlE'.out, hE1'.out, hbb.out, hE1'.out]
                rw [hd]
                exact cut_set E1 (by rw [hE1'.out]; omega) hcut.out⟩)
            go_wp2
            all_goals (
              refine ⟨⟨k + 1, by omega, by go_num, ?_⟩, by simp [intOf]; omega⟩
              have := hend.out
              rw [Int.natCast_add] at this
              exact this)
          · have n2 : ((G : Int) == 2) = false := by simp; omega
            have hend := Lib.hid (show _ from hq6.out _ ⟨vp2, .slice (some ⟨g, 0, none⟩) (r.a.dur + K) (r.a.dur + K), r.S,
              (((h7'.out.pick 1 rfl).setCell 0 (.slice (some ⟨g, 0, none⟩) (r.a.dur + K) (r.a.dur + K))).setCell 1 (.int .i64 ((r.a.dur + K : Nat) : Int))).swap, h8'.out, by
                have hd : dmgL G K (List.take (r.a.dur + K) r.a.data) = List.take (r.a.dur + K) r.a.data := by unfold dmgL; rw [if_neg hg1, if_neg hg2]
                rw [hd, hcur.out.2.1]
                exact cut_keep _ (by omega) s3 s4 s5 hcur.out.2.2⟩)
            go_wp2_with fail
            all_goals (
              refine ⟨⟨k + 1, by omega, by go_num, ?_⟩, by simp [intOf]; omega⟩
              have := hend.out
              rw [Int.natCast_add] at this
              exact this)
    · have hkn : k = N := by omega
      subst hkn
      go_wp2
      go_end0
      obtain ⟨vp, rs3, q1, _, q3, q4, q5, q6⟩ := hc'.out
      rw [List.take_of_length_le (by omega), List.drop_eq_nil_of_le (by omega), List.append_nil] at q5
      exact ⟨rfl, M2, SM2, rs3, (show H W wr (chdr b M2 :: SM2 :: frs rs3 :: L) from q1.drop.pick 2 rfl |>.drop), q3, q4, q5, by show (0 : Nat) < _; decide, q6⟩
end Go.Proofs.Ytfhoblchgeijkaa
