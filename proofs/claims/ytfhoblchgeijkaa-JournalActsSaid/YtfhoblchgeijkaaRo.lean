import Derived.Test.YtfhoblchgeijkaaRn
namespace Go.Proofs.Ytfhoblchgeijkaa
open Go.RowKit Go.Maps
variable {W w : World} {L T : List Seg} {v : Value} {l n bs t : Bs} {b : Nat} {d : AD} {S : Seg}

theorem rren_disk (h : RDisk W w L b d) (hs : d.sorted) : Calls Try.prog 52 #[.pointer (some ⟨b, 0, none⟩), .string (bstr n), .string (bstr t)] w (PErr (d.renE n t) fun w' => RDisk W w' L b (d.ren n t)) := by
  by_cases ht : t = []
  · exact rren_early h (.inl ht)
  by_cases he : d.existE n = 0
  · cases hw : d.writes with
    | false => exact rren_early h (.inr (.inr hw))
    | true =>
      refine (rren_good h hs ht he hw).mono ?_
      rintro e w' ⟨rfl, h3⟩
      refine ⟨by unfold AD.renE AD.chgE; rw [if_neg ht, if_pos he, hw]; rfl, ?_⟩
      unfold AD.ren AD.chg
      rw [if_neg ht, if_pos he, hw, if_pos rfl]
      exact h3
  · exact rren_early h (.inr (.inl he))

/-- The last j bytes are cleared. -/
def zl (j : Nat) (c : Bs) : Bs := c.take (c.length - j) ++ List.replicate j 0
theorem zl_len (j : Nat) (c : Bs) (h : j ≤ c.length) : (zl j c).length = c.length := by unfold zl; simp; omega
theorem zl_zero (c : Bs) : zl 0 c = c := by unfold zl; simp
theorem zl_succ (j : Nat) (c : Bs) (h : j < c.length) : zl (j + 1) c = (zl j c).set (c.length - 1 - j) 0 := by
  unfold zl
  have e : c.take (c.length - j) = c.take (c.length - (j + 1)) ++ [c[c.length - 1 - j]'(by omega)] := by
    have : c.length - j = c.length - (j + 1) + 1 := by omega
    rw [this, List.take_add_one, List.getElem?_eq_getElem (by omega)]
    simp only [Option.toList_some, show c.length - (j + 1) = c.length - 1 - j by omega]
  rw [e, List.append_assoc, List.set_append_right _ _ (by rw [List.length_take]; omega), List.length_take]
  rw [show c.length - 1 - j - min (c.length - (j + 1)) c.length = 0 by omega]
  rfl

theorem dmg_zl (G K : Nat) (c : Bs) : dmgL G K c = zl (if G = 2 then min K 8 else 0) (if G = 1 ∧ 0 < K then c.set (c.length - 1) (c.getD (c.length - 1) 0 ^^^ 255) else c) := by
  unfold dmgL
  by_cases h1 : G = 1 ∧ 0 < K
  · rw [if_pos h1, if_pos h1, if_neg (by omega), zl_zero]
  · rw [if_neg h1, if_neg h1]
    by_cases h2 : G = 2
    · rw [if_pos h2, if_pos h2]; rfl
    · rw [if_neg h2, if_neg h2, zl_zero]

theorem pick_below (ps : List Int) (at_ n : Nat) : belowV (ps.drop at_) n = (pickV ps at_ % (n : Int)).toNat := by
  unfold belowV pickV
  by_cases h : at_ < ps.length
  · rw [List.drop_eq_getElem_cons h]
    simp [List.getD, h]
  · rw [List.drop_eq_nil_of_le (by omega)]
    simp [List.getD, List.getElem?_eq_none (show ps.length ≤ at_ by omega)]
theorem inI_pick {ps : List Int} (h : ∀ p ∈ ps, InI p) (i : Nat) : InI (pickV ps i) := by
  unfold pickV
  by_cases hi : i < ps.length
  · simp only [List.getD, List.getElem?_eq_getElem hi, Option.getD_some]; exact h _ (List.getElem_mem hi)
  · simp only [List.getD, List.getElem?_eq_none (show ps.length ≤ i by omega), Option.getD_none]; unfold InI; omega

theorem own8_cell {A : Addr} {N cap : Nat} {l : Bs} {g : Nat} {cur : Array Value} (h : OwnS 5 1 (.slice (some A) N cap) N (u8s l) [(g, .cells cur 5 (0, 0))]) (i : Nat) (hi : i < N) : ∃ v, cur[i]? = some v := by
  rcases h.2 with ⟨h1, _⟩ | ⟨g', cap', cur', h1, h2, h3, h4, h5, h6⟩
  · simp at h1
  · simp only [List.cons.injEq, Prod.mk.injEq, Obj.cells.injEq] at h2
    obtain ⟨⟨_, rfl, _⟩, _⟩ := h2
    have : i < cur.size := by omega
    exact ⟨cur[i], by simp [this]⟩
theorem own_set8 {g N cap i : Nat} {cur : Array Value} {l : Bs} {x : UInt8} (h : OwnS 5 1 (.slice (some ⟨g, 0, none⟩) N cap) N (u8s l) [(g, .cells cur 5 (0, 0))]) :
    OwnS 5 1 (.slice (some ⟨g, 0, none⟩) N cap) N (u8s (l.set i x)) [(g, .cells (cur.setIfInBounds i (.int .u8 x.toNat)) 5 (0, 0))] := by
  have e : u8s (l.set i x) = (u8s l).set i (.int .u8 x.toNat) := by simp [u8s, List.map_set]
  rw [e]
  refine ⟨by rw [List.length_set]; exact h.1, ?_⟩
  rcases h.2 with ⟨h1, _⟩ | ⟨g', cap', cur', h1, h2, h3, h4, h5, h6⟩
  · simp at h1
  · simp only [Value.slice.injEq, Option.some.injEq, Addr.mk.injEq] at h1
    obtain ⟨⟨rfl, _⟩, _, rfl⟩ := h1
    simp only [List.cons.injEq, Prod.mk.injEq, Obj.cells.injEq] at h2
    obtain ⟨⟨_, rfl, _⟩, _⟩ := h2
    refine .inr ⟨g, cap, _, rfl, rfl, h3, h4, by simpa using h5, ?_⟩
    rw [Array.toList_setIfInBounds, List.take_set, h6]

set_option maxRecDepth 100000 in
set_option maxHeartbeats 12800000 in
theorem rcrash_disk {vp : Value} {ps : List Int} (h : RDisk W w L b d) (hr : RI L vp ps) : Calls Try.prog 36 #[.pointer (some ⟨b, 0, none⟩), vp] w (PVoid fun w' => RDisk W w' L b (d.crash ps)) := by
  obtain ⟨lv, SL, rs0, h, hk⟩ := h
  obtain ⟨Ap, cp, rfl, _⟩ := hr.room
  obtain ⟨A0, cap0, hlv⟩ := hk.row.form
  obtain ⟨N, hN⟩ : ∃ N, rs0.length = N := ⟨_, rfl⟩
  have hNd : N = d.fs.length := by rw [← hN, ← hk.fs, List.length_map]
  have hle := hk.le
  rw [hN] at hlv hle
  subst hlv
  have hbl := h.ltAt 0 0 rfl rfl
  have y0 : w.cell? ⟨b, 0, none⟩ = some (.slice A0 N cap0) := h.cellAt 0 0 0 rfl rfl rfl
  have y1 : w.cell? ⟨b, 1, none⟩ = some (.bool d.armed) := h.cellAt 0 0 1 rfl rfl rfl
  have y2 : w.cell? ⟨b, 2, none⟩ = some (.int .i64 d.left) := h.cellAt 0 0 2 rfl rfl rfl
  have y3 : w.cell? ⟨b, 3, none⟩ = some (.bool d.off) := h.cellAt 0 0 3 rfl rfl rfl
  have f1 := fun k => h.freeAt 0 0 k rfl rfl
  have h1 := Lib.hid (show H W (((w.setCell ⟨b, 3, none⟩ (.bool false)).setCell ⟨b, 1, none⟩ (.bool false)).setCell ⟨b, 2, none⟩ (.int .i64 0)) (rhdr b d.calm (.slice A0 N cap0) :: SL :: rdatas rs0 :: L) from
    ((h.setCell 3 (.bool false)).setCell 1 (.bool false)).setCell 2 (.int .i64 0))
  have hAl := h1.out.alloc (.cells #[] 89)
  simp only [World.size_setCell] at hAl
  have hAl' := Lib.hid hAl
  have hLit := Lib.hid (show OwnS 89 3 (.slice (some ⟨w.heap.size, 0, none⟩) 0 0) 0 [] [(w.heap.size, .cells #[] 89 (0, 0))] from h.lit #[] 0 (by simp [maxLen]) rfl)
  have hfull := Lib.hid (hk.row.rs [])
  rw [hN] at hfull
  have hone := Lib.hid (cells_one hk.each)
  have hr' := Lib.hid hr
  have hK := Lib.hid hk
  have hN' := Lib.hid hN
  have hNd' := Lib.hid hNd
  clear h hr hk hN hNd hAl
  go_enter Try.func36, Try.ntmps36
  go_wp2_with (at_builtin; refine wpl_append (m := N) (news := rs0.flatMap RF.cells) rfl (.tmp 22) (.tmp 26) rfl et41 rfl rfl hAl'.out hLit.out (hfull.out.up (by simp)) hone.out (by omega) (by omega) ?_; intro A2 c2 w2 S2 h2 h3
               have p1 : w2.cell? ⟨b, 0, none⟩ = some (.slice A0 N cap0) := h2.cellAt 1 0 0 rfl rfl rfl
               have p2 : w2.frozen? ⟨b, 0, none⟩ = false := h2.freeAt 1 0 0 rfl rfl
               have h3x := Lib.hid (show OwnS 89 3 (.slice A2 N c2) N (rs0.flatMap RF.cells) S2 by simpa using h3)
               have h2x := Lib.hid ((show H W _ (rhdr b d.calm (.slice A2 N c2) :: S2 :: SL :: rdatas rs0 :: L) from (h2.pick 1 rfl).setCell 0 (.slice A2 N c2)).pick 2 rfl |>.drop)
               clear h2 h3)
  clear y0 y1 y2 y3 f1 hAl' hLit h1
  go_loopw [4, 5] (fun t i wr => ∃ k j : Nat, k ≤ N ∧ j ≤ 2 * k ∧ i = .int .i64 k ∧ t = .int .i64 j ∧ ∃ rs Sx, H W wr (rhdr b d.calm (.slice A2 N c2) :: Sx :: rdatas rs :: L) ∧ OwnS 89 3 (.slice A2 N c2) N (rs.flatMap RF.cells) Sx ∧
    rs.map RF.a = crashL ps (d.fs.take k) ++ d.fs.drop k ∧ (∀ r ∈ rs, r.ok) ∧ picksL ps (d.fs.take k) = ps.drop j) (fun _ i _ => N - (intOf i).toNat)
  case atStart => exact ⟨0, 0, Nat.zero_le _, Nat.le_refl _, rfl, rfl, rs0, S2, h2x.out, h3x.out, hK.out.fs, hK.out.each, rfl⟩
  case round =>
    obtain ⟨k, j, hk, hj, rfl, rfl, rs, Sx, q1, q2, q3, q4, q5⟩ := hrel
    have hlen : rs.length = N := by
      have := congrArg List.length q3
      simp only [List.length_map, List.length_append, crashL_length, List.length_take, List.length_drop] at this
      rw [hNd'.out]; have := hNd'.out; omega
    have z0 : wr.cell? ⟨b, 0, none⟩ = some (.slice A2 N c2) := q1.cellAt 0 0 0 rfl rfl rfl
    have zb : b < wr.heap.size := q1.ltAt 0 0 rfl rfl
    have Q1 := Lib.hid q1
    have Q2 := Lib.hid q2
    have Q3 := Lib.hid q3
    have Q4 := Lib.hid q4
    have Q5 := Lib.hid q5
    have Hlen := Lib.hid hlen
    by_cases hlt : k < N
    · have hki : (k : Int) < (N : Int) := by omega
      have hkr : k < rs.length := by omega
      have hkd : k < d.fs.length := by have := hNd'.out; omega
      have hra : rs[k].a = d.fs[k] := by
        have h1 : (rs.map RF.a)[k]? = some (rs[k]).a := by simp [hkr]
        rw [q3, List.getElem?_append_right (by rw [crashL_length, List.length_take]; omega), crashL_length, List.length_take, List.getElem?_drop, show k + (k - min k d.fs.length) = k by omega, List.getElem?_eq_getElem hkd] at h1
        simpa using h1.symm
      have hok := q4 _ (List.getElem_mem hkr)
      obtain ⟨g, cap', cur, e1, e2, _, _, e5⟩ := rrow (rs := rs) (by rw [hlen]; exact q2) (by omega)
      obtain ⟨rfl, rfl⟩ : A2 = some ⟨g, 0, none⟩ ∧ c2 = cap' := by rw [hlen] at e1; simpa using e1
      obtain ⟨rk, hrk⟩ : ∃ rk, rs[k] = rk := ⟨_, rfl⟩
      have hcells := e5 k hkr
      rw [hrk] at hra hok hcells
      obtain ⟨Av, cv, hv⟩ := hok.1.form
      obtain ⟨dl, hdl⟩ : ∃ dl, rk.a.data.length = dl := ⟨_, rfl⟩
      obtain ⟨du, hdu⟩ : ∃ du, rk.a.dur = du := ⟨_, rfl⟩
      have hdlb := hok.2.1
      have hdub := hok.2.2
      rw [hdl] at hv hdlb hdub
      rw [hdu] at hdub
      have hrc : rk.cells = [.string (bstr rk.a.name), .slice Av dl cv, .int .i64 du] := by unfold RF.cells; rw [hv, hdu]
      rw [hrc] at hcells
      have m0 : wr.cell? ⟨g, k * 3, none⟩ = some (.string (bstr rk.a.name)) := q1.cellAt 1 0 (k * 3) (by rw [e2]; rfl) rfl (by have := hcells 0 (by decide); rw [Nat.add_zero] at this; exact this)
      have m1 : wr.cell? ⟨g, k * 3 + 1, none⟩ = some (.slice Av dl cv) := q1.cellAt 1 0 (k * 3 + 1) (by rw [e2]; rfl) rfl (hcells 1 (by decide))
      have m2 : wr.cell? ⟨g, k * 3 + 2, none⟩ = some (.int .i64 du) := q1.cellAt 1 0 (k * 3 + 2) (by rw [e2]; rfl) rfl (hcells 2 (by decide))
      have hcu1 := Lib.hid (hcells 1 (by decide))
      have hcu2 := Lib.hid (hcells 2 (by decide))
      have E2 := Lib.hid e2
      have Hra := Lib.hid hra
      have Hok := Lib.hid hok
      have Hv := Lib.hid hv
      have Hrk := Lib.hid hrk
      have Hdl := Lib.hid hdl
      have Hdu := Lib.hid hdu
      have Hkr := Lib.hid hkr
      have Hrc := Lib.hid hrc
      have Htk := Lib.hid (show d.fs.take (k + 1) = d.fs.take k ++ [rk.a] by rw [List.take_add_one, List.getElem?_eq_getElem hkd, hra]; rfl)
      have Hne := Lib.hid (show ∀ r' : RF, (rs.set k r').map RF.a = crashL ps (d.fs.take k) ++ r'.a :: d.fs.drop (k + 1) by
        intro r'
        have h1 : crashL ps (d.fs.take k) ++ d.fs.drop k = crashL ps (d.fs.take k) ++ d.fs[k] :: d.fs.drop (k + 1) := by rw [← List.getElem_cons_drop hkd]
        rw [List.map_set, q3, h1, List.set_append_right _ _ (by rw [crashL_length, List.length_take]; omega), crashL_length, List.length_take, show k - min k d.fs.length = 0 by omega]
        rfl)
      clear q1 q2 q3 q4 q5 hlen hra hok e1 e2 e5 hcells hv hrk hdl hdu hrc
      by_cases ht : dl = du
      · have e0 : decide ((dl : Int) - (du : Int) ≤ 0) = true := by simp; omega
        have ht' := Lib.hid ht
        go_wp2_with fail
        have hcr : crash1 (picksL ps (d.fs.take k)) rk.a = rk.a := by unfold crash1; rw [if_pos (by rw [Hdl.out, Hdu.out]; exact ht'.out)]
        have hcp : crashP (picksL ps (d.fs.take k)) rk.a = picksL ps (d.fs.take k) := by unfold crashP; rw [if_pos (by rw [Hdl.out, Hdu.out]; exact ht'.out)]
        have hst : rs.set k rk = rs := by rw [← Hrk.out]; exact List.set_getElem_self _
        refine ⟨⟨k + 1, j, by omega, by omega, by go_num, rfl, rs, Sx, ?_, Q2.out, ?_, Q4.out, ?_⟩, by simp [intOf]; omega⟩
        · exact (Q1.out.alloc _).drop
        · have := Hne.out rk
          rw [hst] at this
          rw [this, Htk.out, crashL_snoc, hcr]; simp
        · rw [Htk.out, picksL_snoc, hcp]; exact Q5.out
      · have e0 : decide ((dl : Int) - (du : Int) ≤ 0) = false := by simp; omega
        have hjb : j ≤ 2199023255552 := by omega
        obtain ⟨K, hKe⟩ : ∃ K, K = (pickV ps j % ((dl - du + 1 : Nat) : Int)).toNat := ⟨_, rfl⟩
        obtain ⟨G, hGe⟩ : ∃ G, G = (pickV ps (j + 1) % ((3 : Nat) : Int)).toNat := ⟨_, rfl⟩
        have hp0 := inI_pick hr'.out.each j
        have hp1 := inI_pick hr'.out.each (j + 1)
        have hpk := fun (w' : World) (hw : H W w' L) (i : Nat) (x : Int) (hx : x = i) => rpick hw hr'.out i x hx
        have hpk' := Lib.hid hpk
        clear hpk
        have hm0 := Lib.hid (fun (x : Int) (hx : x = ((dl - du + 1 : Nat) : Int)) (w' : World) => rmod (pickV ps j) (dl - du + 1) (by omega) (by omega) hp0 x hx w')
        have hm1 := Lib.hid (fun (w' : World) => rmod (pickV ps (j + 1)) 3 (by omega) (by omega) hp1 3 rfl w')
        rw [← hKe] at hm0
        rw [← hGe] at hm1
        have HKe := Lib.hid hKe
        have HGe := Lib.hid hGe
        have hKl : K ≤ dl - du := by
          have h1 := Int.emod_lt_of_pos (pickV ps j) (show (0 : Int) < ((dl - du + 1 : Nat) : Int) by omega)
          have h2 := Int.emod_nonneg (pickV ps j) (show ((dl - du + 1 : Nat) : Int) ≠ 0 by omega)
          omega
        have ht' := Lib.hid ht
        have hal := Lib.hid (Q1.out.alloc (.cells #[.string (bstr rk.a.name), .slice Av dl cv, .int .i64 du] 89))
        clear hp0 hp1 hKe hGe ht
        go_wp2_with fail
        refine (hpk'.out _ hal.out.drop.drop.drop.drop j _ (by first | rfl | omega)).mono ?_
        rintro e w9 ⟨rfl, rfl⟩
        go_wp2_with fail
        refine (hm0.out _ (by omega) _).mono ?_
        rintro e w9 ⟨rfl, rfl⟩
        go_wp2_with fail
        have Hpk1 := hpk'.out _ hal.out.drop.drop.drop.drop (j + 1) ((j : Int) + 1) (by omega)
        refine Hpk1.mono ?_
        rintro e w9 ⟨rfl, rfl⟩
        go_wp2_with fail
        refine (hm1.out _).mono ?_
        rintro e w9 ⟨rfl, rfl⟩
        have a1 : (wr.alloc (.cells #[.string (bstr rk.a.name), .slice Av dl cv, .int .i64 du] 89)).cell? ⟨wr.heap.size, 1, none⟩ = some (.slice Av dl cv) := hal.out.cellAt 0 0 1 rfl rfl rfl
        have a2 : (wr.alloc (.cells #[.string (bstr rk.a.name), .slice Av dl cv, .int .i64 du] 89)).cell? ⟨wr.heap.size, 2, none⟩ = some (.int .i64 du) := hal.out.cellAt 0 0 2 rfl rfl rfl
        have a3 : wr.heap.size < (wr.alloc (.cells #[.string (bstr rk.a.name), .slice Av dl cv, .int .i64 du] 89)).heap.size := hal.out.ltAt 0 0 rfl rfl
        generalize wr.alloc (.cells #[.string (bstr rk.a.name), .slice Av dl cv, .int .i64 du] 89) = wa at *
        generalize wr.heap.size = fb at *
        have hvc : dl ≤ cv := by
          obtain ⟨A9, c9, e9, e10⟩ := Hok.out.1.cap
          rw [Hv.out, Hdl.out] at e9
          simp only [Value.slice.injEq] at e9
          obtain ⟨_, _, rfl⟩ := e9
          have := Hdl.out
          omega
        have hsl : ∀ w, (Instr.slice 27 (.slice Av dl cv) none (some (.int .i64 ((du : Int) + (K : Int)))) none).run Try.prog w = .ok (.slice Av (du + K) cv) w := fun w => slice_pre8 (by omega) _ (by omega) w
        obtain ⟨dt, hdt⟩ : ∃ dt, rk.a.data = dt := ⟨_, rfl⟩
        have hcontx := (RF.rs (by rw [← Hrk.out]; exact List.getElem_mem Hkr.out) Hok.out L)
        rw [Hv.out, Hdl.out, hdt] at hcontx
        have hcont := Lib.hid (show RS (rdatas rs :: L) 1 (.slice Av (du + K) cv) (du + K) (u8s (dt.take (du + K))) by
          have := hcontx.pre (m := du + K) (by omega)
          rw [show (u8s dt).take (du + K) = u8s (dt.take (du + K)) by simp [u8s]] at this
          exact this)
        have Hdt := Lib.hid hdt
        have hu1 := Lib.hid (u8s_one (dt.take (du + K)))
        clear hcontx hdt m0 m1 m2
        by_cases hg1 : G = 1 ∧ 0 < K
        · obtain ⟨hG1, hK0⟩ := hg1
          have n1 : ((G : Int) == 1) = true := by simp; omega
          have n0 : decide ((0 : Int) < (K : Int)) = true := by simp; omega
          have HG1 := Lib.hid hG1
          obtain ⟨E1, hE1⟩ : ∃ E1, E1 = du + K - 1 := ⟨_, rfl⟩
          have HE1 := Lib.hid hE1
          have htl := Lib.hid (show (dt.take (du + K)).length = du + K from by have h1 := Hdl.out; rw [Hdt.out] at h1; rw [List.length_take]; omega)
          obtain ⟨by0, hb0⟩ : ∃ y : UInt8, y = (dt.take (du + K)).getD E1 0 := ⟨_, rfl⟩
          have Hb0 := Lib.hid hb0
          have hia0 : ∀ gc cc w, (Instr.indexAt 27 (.slice (some ⟨gc, 0, none⟩) (du + K) cc) (.int .i64 ((du : Int) + (K : Int) - 1))).run Try.prog w = .ok (.pointer (some ⟨gc, E1, none⟩)) w := fun gc cc w => run_index8 gc E1 _ _ _ (by omega) (by omega) w
          have Hia0 := Lib.hid hia0
          clear hG1 hE1 hb0 hia0
          go_wp2_with (at_builtin; refine wpl_append (m := du + K) (news := u8s (dt.take (du + K))) rfl (.tmp 67) (.tmp 74) rfl et27 rfl rfl (hal.out.alloc (.cells #[] 5)) (hal.out.lit #[] 0 (by simp [maxLen]) rfl) (((((hcont.out.cons Sx).cons (rhdr b d.calm (.slice (some ⟨g, 0, none⟩) N c2))).cons _).cons _)) hu1.out (by omega) (by omega) ?_; intro Ac cc wb Sc h5 h6
                       have h5' := Lib.hid h5
                       have h6' := Lib.hid (show OwnS 5 1 (.slice Ac (du + K) cc) (du + K) (u8s (dt.take (du + K))) Sc by simpa using h6)
                       clear h5 h6
                       obtain ⟨gc, curc, hac, hsc, hcc⟩ : ∃ gc curc, Ac = some ⟨gc, 0, none⟩ ∧ Sc = [(gc, .cells curc 5 (0, 0))] ∧ curc[E1]? = some (.int .u8 (by0.toNat : Int)) := by
                         rcases h6'.out.2 with ⟨_, h0, _⟩ | ⟨gc, cap', curc, z1, z2, z3, z4, z5, z6⟩
                         · omega
                         · simp only [Value.slice.injEq] at z1
                           refine ⟨gc, curc, z1.1, z2, ?_⟩
                           have z7 : (u8s (dt.take (du + K)))[E1]? = some (.int .u8 (by0.toNat : Int)) := by rw [Hb0.out]; simp only [u8s, List.getElem?_map, List.getD]; rw [List.getElem?_eq_getElem (by rw [htl.out, HE1.out]; omega)]; rfl
                           rw [← z6, List.getElem?_take, if_pos (by rw [HE1.out]; omega)] at z7
                           simpa using z7
                       subst hac
                       subst hsc
                       have j4 : wb.cell? ⟨gc, E1, none⟩ = some (.int .u8 (by0.toNat : Int)) := h5'.out.cellAt 0 0 _ rfl rfl hcc
                       have j5 : wb.frozen? ⟨gc, E1, none⟩ = false := h5'.out.freeAt 0 0 _ rfl rfl
                       have hia := Hia0.out gc cc
                       clear hcc)
          obtain ⟨cb, hcb⟩ : ∃ cb, cb = (dt.take (du + K)).set E1 (by0 ^^^ 255) := ⟨_, rfl⟩

          have hz0 := Lib.hid (show H W (wb.setCell ⟨gc, E1, none⟩ (.int .u8 (bits .xor .u8 (by0.toNat : Int) 255))) ([(gc, .cells (curc.setIfInBounds E1 (.int .u8 ((by0 ^^^ 255 : UInt8).toNat : Int))) 5 (0, 0))] :: rhdr b d.calm (.slice (some ⟨g, 0, none⟩) N c2) :: [(g, .cells cur 89 (0, 0))] :: rdatas rs :: [(fb, .cells #[.string (bstr rk.a.name), .slice Av dl cv, .int .i64 du] 89 (0, 0))] :: L) from (by
            have h30 := h5'.out.setCell E1 (.int .u8 (bits .xor .u8 (by0.toNat : Int) 255))
            rw [xor255, E2.out] at h30
            rw [xor255]
            exact h30.re (by intro c hc h0; simp only [List.flatten_cons, hc]; omega)))
          have ho0 := Lib.hid (show OwnS 5 1 (.slice (some ⟨gc, 0, none⟩) (du + K) cc) (du + K) (u8s (zl 0 cb)) [(gc, .cells (curc.setIfInBounds E1 (.int .u8 ((by0 ^^^ 255 : UInt8).toNat : Int))) 5 (0, 0))] from by rw [zl_zero]; exact (by rw [hcb]; exact own_set8 h6'.out))
          obtain ⟨lim, hlim⟩ : ∃ lim, lim = if G = 2 then min K 8 else 0 := ⟨_, rfl⟩
          have Hlim := Lib.hid hlim
          have hlimK : lim ≤ du + K := by rw [hlim]; split <;> omega
          have Hcbl := Lib.hid (show cb.length = du + K from (by rw [hcb, List.length_set]; exact htl.out))
          have Hcb := Lib.hid (show dmgL G K (dt.take (du + K)) = zl lim cb from (by rw [dmg_zl, ← Hlim.out, if_pos (⟨HG1.out, hK0⟩ : G = 1 ∧ 0 < K), htl.out, ← HE1.out, ← Hb0.out, ← hcb]))
          clear hlim hcb
          go_wp2_with fail
          go_loopw [11] (fun jv wr => ∃ jj : Nat, jj ≤ lim ∧ jv = .int .i64 jj ∧ ∃ Sq, H W wr (Sq :: rhdr b d.calm (.slice (some ⟨g, 0, none⟩) N c2) :: [(g, .cells cur 89 (0, 0))] :: rdatas rs :: [(fb, .cells #[.string (bstr rk.a.name), .slice Av dl cv, .int .i64 du] 89 (0, 0))] :: L) ∧ OwnS 5 1 (.slice (some ⟨gc, 0, none⟩) (du + K) cc) (du + K) (u8s (zl jj cb)) Sq) (fun jv _ => lim - (intOf jv).toNat)
          case atStart => exact ⟨0, Nat.zero_le _, rfl, _, hz0.out, ho0.out⟩
          case round =>
            obtain ⟨jj, hjj, rfl, Sq, hz, ho⟩ := hrel
            have hz' := Lib.hid hz
            have ho' := Lib.hid ho
            clear hz ho
            by_cases hjl : jj < lim
            · have hg2 : G = 2 ∧ jj < K ∧ jj < 8 := by
                have := Hlim.out
                by_cases h2 : G = 2
                · rw [if_pos h2] at this; omega
                · rw [if_neg h2] at this; omega
              obtain ⟨hg2a, hjK, hj8⟩ := hg2
              try (exfalso; simp at n1; omega)
              all_goals (
                have n2 : ((G : Int) == 2) = true := by simp; omega
                have n3 : decide ((jj : Int) < 8) = true := by simp; omega
                have n4 : decide ((jj : Int) < (K : Int)) = true := by simp; omega
                obtain ⟨gc2, curq, hac, hsq⟩ : ∃ gc2 curq, gc = gc2 ∧ Sq = [(gc2, .cells curq 5 (0, 0))] := by
                  rcases ho'.out.2 with ⟨_, h0, _⟩ | ⟨gc3, cap', curq, h1, h2, _⟩
                  · omega
                  · simp only [Value.slice.injEq] at h1; exact ⟨_, curq, by have := h1.1; simp at this; exact this, h2⟩
                subst hac
                subst hsq
                have Hg2a := Lib.hid hg2a
                clear hg2a
                have hia : ∀ w, (Instr.indexAt 27 (.slice (some ⟨gc, 0, none⟩) (du + K) cc) (.int .i64 ((du : Int) + (K : Int) - 1 - (jj : Int)))).run Try.prog w = .ok (.pointer (some ⟨gc, du + K - 1 - jj, none⟩)) w := fun w => run_index8 gc (du + K - 1 - jj) _ _ _ (by omega) (by omega) w
                obtain ⟨ix, hix⟩ : ∃ ix, ix = du + K - 1 - jj := ⟨_, rfl⟩
                rw [← hix] at hia
                obtain ⟨vq, hvq⟩ : ∃ vq, wr.cell? ⟨gc, ix, none⟩ = some vq := by
                  obtain ⟨vq, hvq⟩ := own8_cell ho'.out ix (by omega)
                  exact ⟨vq, hz'.out.cellAt 0 0 ix rfl rfl hvq⟩
                have hfq : wr.frozen? ⟨gc, ix, none⟩ = false := hz'.out.freeAt 0 0 ix rfl rfl
                have Hix := Lib.hid hix
                clear hix
                go_wp2_with fail
                refine ⟨⟨jj + 1, by omega, by go_num, [(gc, .cells (curq.setIfInBounds ix (.int .u8 ((0 : UInt8).toNat : Int))) 5 (0, 0))], hz'.out.setCell ix (.int .u8 0), ?_⟩, by simp [intOf]; omega⟩
                rw [zl_succ jj cb (by rw [Hcbl.out]; omega), Hcbl.out, ← Hix.out]
                exact own_set8 ho'.out)
            · have hjn : jj = lim := by omega
              have hcond : ((G : Int) == 2) = false ∨ (((G : Int) == 2) = true ∧ ¬ (jj : Int) < 8) ∨ (((G : Int) == 2) = true ∧ ((jj : Int) < 8) ∧ ¬ (jj : Int) < (K : Int)) := by
                have := Hlim.out
                by_cases h2 : G = 2
                · rw [if_pos h2] at this
                  have n2 : ((G : Int) == 2) = true := by simp; omega
                  by_cases h8 : (jj : Int) < 8
                  · right; right; exact ⟨n2, h8, by omega⟩
                  · right; left; exact ⟨n2, h8⟩
                · left; simp; omega
              have Hjn := Lib.hid hjn
              clear hjn
              have hstep : wr.cell? ⟨b, 0, none⟩ = some (.slice (some ⟨g, 0, none⟩) N c2) := hz'.out.cellAt 1 0 0 rfl rfl rfl
              have hstepb : b < wr.heap.size := hz'.out.ltAt 1 0 rfl rfl
              rcases hcond with hc1 | ⟨hc1, hc2⟩ | ⟨hc1, hc2, hc3⟩
              all_goals (
                go_wp2_with fail
                refine wpF_start (S := (fun w' => w'.cell? ⟨b, 0, none⟩ = some (.slice (some ⟨g, 0, none⟩) N c2))) (fins := []) (by kernel_rfl) ?_ (fun hHeld => ?_)
                · exact hz'.out.drew.cellAt 1 0 0 rfl rfl rfl
                refine wpF_take 0 (v := ?_) hHeld (by simp only [List.getElem?_toArray, List.getElem?_cons_zero]; exact rfl) (by kernel_rfl) (by exact fun _ _ _ h => h) (by rfl) ?_ ?_
                rotate_left
                · (intro w hSw; (try dsimp only at hSw); go_simp; try with_reducible rfl)
                try simp only [Act.put, List.setIfInBounds_toArray, List.set_cons_zero, List.set_cons_succ]
                refine wpF_take 1 (v := ?_) hHeld (by simp only [List.getElem?_toArray, List.getElem?_cons_succ, List.getElem?_cons_zero]; exact rfl) (by kernel_rfl) (by exact fun _ _ _ h => h) (by rfl) ?_ ?_
                rotate_left
                · (intro w hSw; (try dsimp only at hSw); go_simp; try with_reducible rfl)
                try simp only [Act.put, List.setIfInBounds_toArray, List.set_cons_zero, List.set_cons_succ]
                refine wpF_take 2 (v := ?_) hHeld (by simp only [List.getElem?_toArray, List.getElem?_cons_succ, List.getElem?_cons_zero]; exact rfl) (by kernel_rfl) (by exact fun _ _ _ h => h) (by rfl) ?_ ?_
                rotate_left
                · (intro w hSw; (try dsimp only at hSw); go_simp; try with_reducible rfl)
                try simp only [Act.put, List.setIfInBounds_toArray, List.set_cons_zero, List.set_cons_succ]
                refine wpF_take 3 (v := ?_) hHeld (by simp only [List.getElem?_toArray, List.getElem?_cons_succ, List.getElem?_cons_zero]; exact rfl) (by kernel_rfl) (by exact fun _ _ _ h => h) (by rfl) ?_ ?_
                rotate_left
                · (intro w hSw; (try dsimp only at hSw); go_simp; try with_reducible rfl)
                try simp only [Act.put, List.setIfInBounds_toArray, List.set_cons_zero, List.set_cons_succ]
                refine wpF_take 4 (v := ?_) hHeld (by simp only [List.getElem?_toArray, List.getElem?_cons_succ, List.getElem?_cons_zero]; exact rfl) (by kernel_rfl) (by exact fun _ _ _ h => h) (by rfl) ?_ ?_
                rotate_left
                · (intro w hSw; (try dsimp only at hSw); go_simp; try with_reducible rfl)
                try simp only [Act.put, List.setIfInBounds_toArray, List.set_cons_zero, List.set_cons_succ]
                refine wpF_take 5 (v := ?_) hHeld (by simp only [List.getElem?_toArray, List.getElem?_cons_succ, List.getElem?_cons_zero]; exact rfl) (by kernel_rfl) (by exact fun _ _ _ h => h) (by rfl) ?_ ?_
                rotate_left
                · (intro w hSw; (try dsimp only at hSw); go_simp; try with_reducible rfl)
                try simp only [Act.put, List.setIfInBounds_toArray, List.set_cons_zero, List.set_cons_succ]
                refine wpF_take 6 (v := ?_) hHeld (by simp only [List.getElem?_toArray, List.getElem?_cons_succ, List.getElem?_cons_zero]; exact rfl) (by kernel_rfl) (by exact fun _ _ _ h => h) (by rfl) ?_ ?_
                rotate_left
                · (intro w hSw; (try dsimp only at hSw); go_simp; try with_reducible rfl)
                try simp only [Act.put, List.setIfInBounds_toArray, List.set_cons_zero, List.set_cons_succ]
                refine wpF_take 7 (v := ?_) hHeld (by simp only [List.getElem?_toArray, List.getElem?_cons_succ, List.getElem?_cons_zero]; exact rfl) (by kernel_rfl) (by exact fun _ _ _ h => h) (by rfl) ?_ ?_
                rotate_left
                · (intro w hSw; (try dsimp only at hSw); go_simp; try with_reducible rfl)
                try simp only [Act.put, List.setIfInBounds_toArray, List.set_cons_zero, List.set_cons_succ]
                refine wpF_take 8 (v := ?_) hHeld (by simp only [List.getElem?_toArray, List.getElem?_cons_succ, List.getElem?_cons_zero]; exact rfl) (by kernel_rfl) (by exact fun _ _ _ h => h) (by rfl) ?_ ?_
                rotate_left
                · (intro w hSw; (try dsimp only at hSw); go_simp; try with_reducible rfl)
                try simp only [Act.put, List.setIfInBounds_toArray, List.set_cons_zero, List.set_cons_succ]
                refine wpF_take 9 (v := ?_) hHeld (by simp only [List.getElem?_toArray, List.getElem?_cons_succ, List.getElem?_cons_zero]; exact rfl) (by kernel_rfl) (by exact fun _ _ _ h => h) (by rfl) ?_ ?_
                rotate_left
                · (intro w hSw; (try dsimp only at hSw); go_simp; try with_reducible rfl)
                try simp only [Act.put, List.setIfInBounds_toArray, List.set_cons_zero, List.set_cons_succ]
                refine wpF_take 10 (v := ?_) hHeld (by simp only [List.getElem?_toArray, List.getElem?_cons_succ, List.getElem?_cons_zero]; exact rfl) (by kernel_rfl) (by exact fun _ _ _ h => h) (by rfl) ?_ ?_
                rotate_left
                · (intro w hSw; (try dsimp only at hSw); go_simp; try with_reducible rfl)
                try simp only [Act.put, List.setIfInBounds_toArray, List.set_cons_zero, List.set_cons_succ]
                refine wpF_take 11 (v := ?_) hHeld (by simp only [List.getElem?_toArray, List.getElem?_cons_succ, List.getElem?_cons_zero]; exact rfl) (by kernel_rfl) (by exact fun _ _ _ h => h) (by rfl) ?_ ?_
                rotate_left
                · (intro w hSw; (try dsimp only at hSw); go_simp; try with_reducible rfl)
                try simp only [Act.put, List.setIfInBounds_toArray, List.set_cons_zero, List.set_cons_succ]
                refine wpF_take 12 (v := ?_) hHeld (by simp only [List.getElem?_toArray, List.getElem?_cons_succ, List.getElem?_cons_zero]; exact rfl) (by kernel_rfl) (by exact fun _ _ _ h => h) (by rfl) ?_ ?_
                rotate_left
                · (intro w hSw; (try dsimp only at hSw); go_simp; try with_reducible rfl)
                try simp only [Act.put, List.setIfInBounds_toArray, List.set_cons_zero, List.set_cons_succ]
                refine wpF_take 13 (v := ?_) hHeld (by simp only [List.getElem?_toArray, List.getElem?_cons_succ, List.getElem?_cons_zero]; exact rfl) (by kernel_rfl) (by exact fun _ _ _ h => h) (by rfl) ?_ ?_
                rotate_left
                · (intro w hSw; (try dsimp only at hSw); go_simp; try with_reducible rfl)
                try simp only [Act.put, List.setIfInBounds_toArray, List.set_cons_zero, List.set_cons_succ]
                refine wpF_take 14 (v := ?_) hHeld (by simp only [List.getElem?_toArray, List.getElem?_cons_succ, List.getElem?_cons_zero]; exact rfl) (by kernel_rfl) (by exact fun _ _ _ h => h) (by rfl) ?_ ?_
                rotate_left
                · (intro w hSw; (try dsimp only at hSw); go_simp; try with_reducible rfl)
                try simp only [Act.put, List.setIfInBounds_toArray, List.set_cons_zero, List.set_cons_succ]
                refine wpF_one 15 (by simp only [List.getElem?_toArray, List.getElem?_cons_succ, List.getElem?_cons_zero]; exact rfl) (by kernel_rfl) (fun KK hKK => ?_)
                have g1 : wr.drew.cell? ⟨g, k * 3 + 1, none⟩ = some (.slice Av dl cv) := hz'.out.drew.cellAt 2 0 _ rfl rfl hcu1.out
                have g1b : wr.cell? ⟨g, k * 3 + 1, none⟩ = some (.slice Av dl cv) := hz'.out.cellAt 2 0 _ rfl rfl hcu1.out
                have g2f : wr.drew.frozen? ⟨g, k * 3 + 1, none⟩ = false := hz'.out.drew.freeAt 2 0 _ rfl rfl
                have g2g : wr.frozen? ⟨g, k * 3 + 1, none⟩ = false := hz'.out.freeAt 2 0 _ rfl rfl
                go_simp
                have hy := ((hz'.out.drew.pick 2 rfl).setCell (k * 3 + 1) (.slice (some ⟨gc, 0, none⟩) (du + K) cc))
                refine hKK _ _ ?_ (fun hHeld => ?_)
                · exact hy.cellAt 2 0 0 rfl rfl rfl
                clear hKK KK
                try simp only [Act.put, List.setIfInBounds_toArray, List.set_cons_zero, List.set_cons_succ]
                refine wpF_take 16 (v := ?_) hHeld (by simp only [List.getElem?_toArray, List.getElem?_cons_succ, List.getElem?_cons_zero]; exact rfl) (by kernel_rfl) (by exact fun _ _ _ h => h) (by rfl) ?_ ?_
                rotate_left
                · (intro w hSw; (try dsimp only at hSw); go_simp; try with_reducible rfl)
                try simp only [Act.put, List.setIfInBounds_toArray, List.set_cons_zero, List.set_cons_succ]
                refine wpF_take 17 (v := ?_) hHeld (by simp only [List.getElem?_toArray, List.getElem?_cons_succ, List.getElem?_cons_zero]; exact rfl) (by kernel_rfl) (by exact fun _ _ _ h => h) (by rfl) ?_ ?_
                rotate_left
                · (intro w hSw; (try dsimp only at hSw); go_simp; try with_reducible rfl)
                try simp only [Act.put, List.setIfInBounds_toArray, List.set_cons_zero, List.set_cons_succ]
                refine wpF_one 18 (by simp only [List.getElem?_toArray, List.getElem?_cons_succ, List.getElem?_cons_zero]; exact rfl) (by kernel_rfl) (fun KK hKK => ?_)
                have g3 := hy.cellAt 0 0 (k * 3 + 2) rfl rfl (v := .int .i64 du) (by rw [Array.getElem?_setIfInBounds_ne (by omega)]; exact hcu2.out)
                have g4 := hy.freeAt 0 0 (k * 3 + 2) rfl rfl
                have g3b : wr.cell? ⟨g, k * 3 + 2, none⟩ = some (.int .i64 du) := hz'.out.cellAt 2 0 _ rfl rfl hcu2.out
                have g4b : wr.frozen? ⟨g, k * 3 + 2, none⟩ = false := hz'.out.freeAt 2 0 _ rfl rfl
                go_simp
                have hyz := hy.setCell (k * 3 + 2) (.int .i64 ((du : Int) + (K : Int)))
                refine hKK _ _ ?_ (fun hHeld => ?_)
                · exact hyz.cellAt 2 0 0 rfl rfl rfl
                clear hKK KK
                try simp only [Act.put, List.setIfInBounds_toArray, List.set_cons_zero, List.set_cons_succ]
                refine wpF_done (by kernel_rfl) ?_
                go_wp2_with fail
                refine ⟨⟨k + 1, j + 2, by omega, by omega, by go_num, by go_num, rs.set k ⟨⟨rk.a.name, zl lim cb, du + K⟩, .slice (some ⟨gc, 0, none⟩) (du + K) cc, Sq⟩, [(g, .cells ((cur.setIfInBounds (k * 3 + 1) (.slice (some ⟨gc, 0, none⟩) (du + K) cc)).setIfInBounds (k * 3 + 2) (.int .i64 ((du : Int) + (K : Int)))) 89 (0, 0))], ?_, ?_, ?_, ?_, ?_⟩, by simp [intOf]; omega⟩
                · have h20 := (show H W _ ([(g, .cells ((cur.setIfInBounds (k * 3 + 1) (.slice (some ⟨gc, 0, none⟩) (du + K) cc)).setIfInBounds (k * 3 + 2) (.int .i64 ((du : Int) + (K : Int)))) 89 (0, 0))] :: Sq :: rhdr b d.calm (.slice (some ⟨g, 0, none⟩) N c2) :: rdatas rs :: [(fb, .cells #[.string (bstr rk.a.name), .slice Av dl cv, .int .i64 du] 89 (0, 0))] :: L) from hyz)
                  have h21 := (h20.pick 4 rfl).drop
                  have hkr := Hkr.out
                  have h22 : H W _ ([(g, .cells ((cur.setIfInBounds (k * 3 + 1) (.slice (some ⟨gc, 0, none⟩) (du + K) cc)).setIfInBounds (k * 3 + 2) (.int .i64 ((du : Int) + (K : Int)))) 89 (0, 0))] :: Sq :: rhdr b d.calm (.slice (some ⟨g, 0, none⟩) N c2) :: rdatas rs :: L) := h21
                  rw [rdatas_mid rs k hkr] at h22
                  rw [rdatas_set rs k _ hkr]
                  have h23 : H W _ (rs[k].S :: [(g, .cells ((cur.setIfInBounds (k * 3 + 1) (.slice (some ⟨gc, 0, none⟩) (du + K) cc)).setIfInBounds (k * 3 + 2) (.int .i64 ((du : Int) + (K : Int)))) 89 (0, 0))] :: Sq :: rhdr b d.calm (.slice (some ⟨g, 0, none⟩) N c2) :: rdatas (rs.take k) :: rdatas (rs.drop (k + 1)) :: L) := h22.re (by intro c hc h0; simp only [List.flatten_cons, hc]; omega)
                  exact h23.drop.re (by intro c hc h0; simp only [List.flatten_cons, hc]; omega)
                · have hq := Q2.out
                  rw [E2.out] at hq
                  have h24 := own_set (rs := rs) (r' := ⟨⟨rk.a.name, zl lim cb, du⟩, .slice (some ⟨gc, 0, none⟩) (du + K) cc, Sq⟩) hq Hkr.out (j := 1) (u := .slice (some ⟨gc, 0, none⟩) (du + K) cc) (by decide) (by rw [Hrk.out, Hrc.out]; rfl)
                  have h25 := own_set (k := k) (r' := ⟨⟨rk.a.name, zl lim cb, du + K⟩, .slice (some ⟨gc, 0, none⟩) (du + K) cc, Sq⟩) h24 (by rw [List.length_set]; exact Hkr.out) (j := 2) (u := .int .i64 ((du : Int) + (K : Int))) (by decide) (by rw [List.getElem_set_self]; simp [RF.cells])
                  rw [List.set_set] at h25
                  exact h25
                · rw [Hne.out, Htk.out, crashL_snoc, Q5.out]
                  have hcr : crash1 (ps.drop j) rk.a = ⟨rk.a.name, zl lim cb, du + K⟩ := by
                    unfold crash1
                    rw [if_neg (by rw [Hdl.out, Hdu.out]; exact ht'.out), Hdl.out, Hdu.out, pick_below ps j, ← HKe.out, List.tail_drop, pick_below ps (j + 1), ← HGe.out, Hdt.out, Hcb.out]
                  rw [hcr]; simp
                · intro q hq
                  rcases List.mem_or_eq_of_mem_set hq with hq | rfl
                  · exact Q4.out q hq
                  · have hzl : (zl lim cb).length = du + K := by rw [zl_len _ _ (by rw [Hcbl.out]; exact hlimK), Hcbl.out]
                    refine ⟨?_, by simp only; rw [hzl]; omega, by simp only; rw [hzl]; exact Nat.le_refl _⟩
                    have h26 := ho'.out
                    rw [Hjn.out] at h26
                    unfold OB
                    rw [hzl]
                    exact h26
                · rw [Htk.out, picksL_snoc, Q5.out]
                  unfold crashP
                  rw [if_neg (by rw [Hdl.out, Hdu.out]; exact ht'.out), List.tail_drop, List.tail_drop])
        · have HG1 := Lib.hid hg1
          have n1 : ((G : Int) == 1) = false ∨ (((G : Int) == 1) = true ∧ ¬ (0 : Int) < (K : Int)) := by
            by_cases h2 : G = 1
            · right; refine ⟨by simp; omega, ?_⟩
              intro h3; exact hg1 ⟨h2, by omega⟩
            · left; simp; omega
          clear hg1
          rcases n1 with n1 | ⟨n1, n0⟩
          all_goals (
            go_wp2_with (at_builtin; refine wpl_append (m := du + K) (news := u8s (dt.take (du + K))) rfl (.tmp 67) (.tmp 74) rfl et27 rfl rfl (hal.out.alloc (.cells #[] 5)) (hal.out.lit #[] 0 (by simp [maxLen]) rfl) (((((hcont.out.cons Sx).cons (rhdr b d.calm (.slice (some ⟨g, 0, none⟩) N c2))).cons _).cons _)) hu1.out (by omega) (by omega) ?_; intro Ac cc wb Sc h5 h6
                         have h5' := Lib.hid h5
                         have h6' := Lib.hid (show OwnS 5 1 (.slice Ac (du + K) cc) (du + K) (u8s (dt.take (du + K))) Sc by simpa using h6)
                         clear h5 h6)
            obtain ⟨cb, hcb⟩ : ∃ cb, cb = dt.take (du + K) := ⟨_, rfl⟩

            have hz0 := Lib.hid (show H W wb (Sc :: rhdr b d.calm (.slice (some ⟨g, 0, none⟩) N c2) :: [(g, .cells cur 89 (0, 0))] :: rdatas rs :: [(fb, .cells #[.string (bstr rk.a.name), .slice Av dl cv, .int .i64 du] 89 (0, 0))] :: L) from (by have h30 := h5'.out; rw [E2.out] at h30; exact h30.re (by intro c hc h0; simp only [List.flatten_cons, hc]; omega)))
            have ho0 := Lib.hid (show OwnS 5 1 (.slice Ac (du + K) cc) (du + K) (u8s (zl 0 cb)) Sc from by rw [zl_zero]; exact (by rw [hcb]; exact h6'.out))
            obtain ⟨lim, hlim⟩ : ∃ lim, lim = if G = 2 then min K 8 else 0 := ⟨_, rfl⟩
            have Hlim := Lib.hid hlim
            have hlimK : lim ≤ du + K := by rw [hlim]; split <;> omega
            have Hcbl := Lib.hid (show cb.length = du + K from (by rw [hcb]; exact (by have h1 := Hdl.out; rw [Hdt.out] at h1; rw [List.length_take]; omega)))
            have Hcb := Lib.hid (show dmgL G K (dt.take (du + K)) = zl lim cb from (by rw [dmg_zl, ← Hlim.out, if_neg HG1.out, ← hcb]))
            clear hlim hcb
            go_wp2_with fail
            go_loopw [11] (fun jv wr => ∃ jj : Nat, jj ≤ lim ∧ jv = .int .i64 jj ∧ ∃ Sq, H W wr (Sq :: rhdr b d.calm (.slice (some ⟨g, 0, none⟩) N c2) :: [(g, .cells cur 89 (0, 0))] :: rdatas rs :: [(fb, .cells #[.string (bstr rk.a.name), .slice Av dl cv, .int .i64 du] 89 (0, 0))] :: L) ∧ OwnS 5 1 (.slice Ac (du + K) cc) (du + K) (u8s (zl jj cb)) Sq) (fun jv _ => lim - (intOf jv).toNat)
            case atStart => exact ⟨0, Nat.zero_le _, rfl, _, hz0.out, ho0.out⟩
            case round =>
              obtain ⟨jj, hjj, rfl, Sq, hz, ho⟩ := hrel
              have hz' := Lib.hid hz
              have ho' := Lib.hid ho
              clear hz ho
              by_cases hjl : jj < lim
              · have hg2 : G = 2 ∧ jj < K ∧ jj < 8 := by
                  have := Hlim.out
                  by_cases h2 : G = 2
                  · rw [if_pos h2] at this; omega
                  · rw [if_neg h2] at this; omega
                obtain ⟨hg2a, hjK, hj8⟩ := hg2
                try (exfalso; simp at n1; omega)
                all_goals (
                  have n2 : ((G : Int) == 2) = true := by simp; omega
                  have n3 : decide ((jj : Int) < 8) = true := by simp; omega
                  have n4 : decide ((jj : Int) < (K : Int)) = true := by simp; omega
                  obtain ⟨gc, curq, hac, hsq⟩ : ∃ gc curq, Ac = some ⟨gc, 0, none⟩ ∧ Sq = [(gc, .cells curq 5 (0, 0))] := by
                    rcases ho'.out.2 with ⟨_, h0, _⟩ | ⟨gc, cap', curq, h1, h2, _⟩
                    · omega
                    · simp only [Value.slice.injEq] at h1; exact ⟨gc, curq, h1.1, h2⟩
                  subst hac
                  subst hsq
                  have Hg2a := Lib.hid hg2a
                  clear hg2a
                  have hia : ∀ w, (Instr.indexAt 27 (.slice (some ⟨gc, 0, none⟩) (du + K) cc) (.int .i64 ((du : Int) + (K : Int) - 1 - (jj : Int)))).run Try.prog w = .ok (.pointer (some ⟨gc, du + K - 1 - jj, none⟩)) w := fun w => run_index8 gc (du + K - 1 - jj) _ _ _ (by omega) (by omega) w
                  obtain ⟨ix, hix⟩ : ∃ ix, ix = du + K - 1 - jj := ⟨_, rfl⟩
                  rw [← hix] at hia
                  obtain ⟨vq, hvq⟩ : ∃ vq, wr.cell? ⟨gc, ix, none⟩ = some vq := by
                    obtain ⟨vq, hvq⟩ := own8_cell ho'.out ix (by omega)
                    exact ⟨vq, hz'.out.cellAt 0 0 ix rfl rfl hvq⟩
                  have hfq : wr.frozen? ⟨gc, ix, none⟩ = false := hz'.out.freeAt 0 0 ix rfl rfl
                  have Hix := Lib.hid hix
                  clear hix
                  go_wp2_with fail
                  refine ⟨⟨jj + 1, by omega, by go_num, [(gc, .cells (curq.setIfInBounds ix (.int .u8 ((0 : UInt8).toNat : Int))) 5 (0, 0))], hz'.out.setCell ix (.int .u8 0), ?_⟩, by simp [intOf]; omega⟩
                  rw [zl_succ jj cb (by rw [Hcbl.out]; omega), Hcbl.out, ← Hix.out]
                  exact own_set8 ho'.out)
              · have hjn : jj = lim := by omega
                have hcond : ((G : Int) == 2) = false ∨ (((G : Int) == 2) = true ∧ ¬ (jj : Int) < 8) ∨ (((G : Int) == 2) = true ∧ ((jj : Int) < 8) ∧ ¬ (jj : Int) < (K : Int)) := by
                  have := Hlim.out
                  by_cases h2 : G = 2
                  · rw [if_pos h2] at this
                    have n2 : ((G : Int) == 2) = true := by simp; omega
                    by_cases h8 : (jj : Int) < 8
                    · right; right; exact ⟨n2, h8, by omega⟩
                    · right; left; exact ⟨n2, h8⟩
                  · left; simp; omega
                have Hjn := Lib.hid hjn
                clear hjn
                have hstep : wr.cell? ⟨b, 0, none⟩ = some (.slice (some ⟨g, 0, none⟩) N c2) := hz'.out.cellAt 1 0 0 rfl rfl rfl
                have hstepb : b < wr.heap.size := hz'.out.ltAt 1 0 rfl rfl
                rcases hcond with hc1 | ⟨hc1, hc2⟩ | ⟨hc1, hc2, hc3⟩
                all_goals (
                  go_wp2_with fail
                  refine wpF_start (S := (fun w' => w'.cell? ⟨b, 0, none⟩ = some (.slice (some ⟨g, 0, none⟩) N c2))) (fins := []) (by kernel_rfl) ?_ (fun hHeld => ?_)
                  · exact hz'.out.drew.cellAt 1 0 0 rfl rfl rfl
                  refine wpF_take 0 (v := ?_) hHeld (by simp only [List.getElem?_toArray, List.getElem?_cons_zero]; exact rfl) (by kernel_rfl) (by exact fun _ _ _ h => h) (by rfl) ?_ ?_
                  rotate_left
                  · (intro w hSw; (try dsimp only at hSw); go_simp; try with_reducible rfl)
                  try simp only [Act.put, List.setIfInBounds_toArray, List.set_cons_zero, List.set_cons_succ]
                  refine wpF_take 1 (v := ?_) hHeld (by simp only [List.getElem?_toArray, List.getElem?_cons_succ, List.getElem?_cons_zero]; exact rfl) (by kernel_rfl) (by exact fun _ _ _ h => h) (by rfl) ?_ ?_
                  rotate_left
                  · (intro w hSw; (try dsimp only at hSw); go_simp; try with_reducible rfl)
                  try simp only [Act.put, List.setIfInBounds_toArray, List.set_cons_zero, List.set_cons_succ]
                  refine wpF_take 2 (v := ?_) hHeld (by simp only [List.getElem?_toArray, List.getElem?_cons_succ, List.getElem?_cons_zero]; exact rfl) (by kernel_rfl) (by exact fun _ _ _ h => h) (by rfl) ?_ ?_
                  rotate_left
                  · (intro w hSw; (try dsimp only at hSw); go_simp; try with_reducible rfl)
                  try simp only [Act.put, List.setIfInBounds_toArray, List.set_cons_zero, List.set_cons_succ]
                  refine wpF_take 3 (v := ?_) hHeld (by simp only [List.getElem?_toArray, List.getElem?_cons_succ, List.getElem?_cons_zero]; exact rfl) (by kernel_rfl) (by exact fun _ _ _ h => h) (by rfl) ?_ ?_
                  rotate_left
                  · (intro w hSw; (try dsimp only at hSw); go_simp; try with_reducible rfl)
                  try simp only [Act.put, List.setIfInBounds_toArray, List.set_cons_zero, List.set_cons_succ]
                  refine wpF_take 4 (v := ?_) hHeld (by simp only [List.getElem?_toArray, List.getElem?_cons_succ, List.getElem?_cons_zero]; exact rfl) (by kernel_rfl) (by exact fun _ _ _ h => h) (by rfl) ?_ ?_
                  rotate_left
                  · (intro w hSw; (try dsimp only at hSw); go_simp; try with_reducible rfl)
                  try simp only [Act.put, List.setIfInBounds_toArray, List.set_cons_zero, List.set_cons_succ]
                  refine wpF_take 5 (v := ?_) hHeld (by simp only [List.getElem?_toArray, List.getElem?_cons_succ, List.getElem?_cons_zero]; exact rfl) (by kernel_rfl) (by exact fun _ _ _ h => h) (by rfl) ?_ ?_
                  rotate_left
                  · (intro w hSw; (try dsimp only at hSw); go_simp; try with_reducible rfl)
                  try simp only [Act.put, List.setIfInBounds_toArray, List.set_cons_zero, List.set_cons_succ]
                  refine wpF_take 6 (v := ?_) hHeld (by simp only [List.getElem?_toArray, List.getElem?_cons_succ, List.getElem?_cons_zero]; exact rfl) (by kernel_rfl) (by exact fun _ _ _ h => h) (by rfl) ?_ ?_
                  rotate_left
                  · (intro w hSw; (try dsimp only at hSw); go_simp; try with_reducible rfl)
                  try simp only [Act.put, List.setIfInBounds_toArray, List.set_cons_zero, List.set_cons_succ]
                  refine wpF_take 7 (v := ?_) hHeld (by simp only [List.getElem?_toArray, List.getElem?_cons_succ, List.getElem?_cons_zero]; exact rfl) (by kernel_rfl) (by exact fun _ _ _ h => h) (by rfl) ?_ ?_
                  rotate_left
                  · (intro w hSw; (try dsimp only at hSw); go_simp; try with_reducible rfl)
                  try simp only [Act.put, List.setIfInBounds_toArray, List.set_cons_zero, List.set_cons_succ]
                  refine wpF_take 8 (v := ?_) hHeld (by simp only [List.getElem?_toArray, List.getElem?_cons_succ, List.getElem?_cons_zero]; exact rfl) (by kernel_rfl) (by exact fun _ _ _ h => h) (by rfl) ?_ ?_
                  rotate_left
                  · (intro w hSw; (try dsimp only at hSw); go_simp; try with_reducible rfl)
                  try simp only [Act.put, List.setIfInBounds_toArray, List.set_cons_zero, List.set_cons_succ]
                  refine wpF_take 9 (v := ?_) hHeld (by simp only [List.getElem?_toArray, List.getElem?_cons_succ, List.getElem?_cons_zero]; exact rfl) (by kernel_rfl) (by exact fun _ _ _ h => h) (by rfl) ?_ ?_
                  rotate_left
                  · (intro w hSw; (try dsimp only at hSw); go_simp; try with_reducible rfl)
                  try simp only [Act.put, List.setIfInBounds_toArray, List.set_cons_zero, List.set_cons_succ]
                  refine wpF_take 10 (v := ?_) hHeld (by simp only [List.getElem?_toArray, List.getElem?_cons_succ, List.getElem?_cons_zero]; exact rfl) (by kernel_rfl) (by exact fun _ _ _ h => h) (by rfl) ?_ ?_
                  rotate_left
                  · (intro w hSw; (try dsimp only at hSw); go_simp; try with_reducible rfl)
                  try simp only [Act.put, List.setIfInBounds_toArray, List.set_cons_zero, List.set_cons_succ]
                  refine wpF_take 11 (v := ?_) hHeld (by simp only [List.getElem?_toArray, List.getElem?_cons_succ, List.getElem?_cons_zero]; exact rfl) (by kernel_rfl) (by exact fun _ _ _ h => h) (by rfl) ?_ ?_
                  rotate_left
                  · (intro w hSw; (try dsimp only at hSw); go_simp; try with_reducible rfl)
                  try simp only [Act.put, List.setIfInBounds_toArray, List.set_cons_zero, List.set_cons_succ]
                  refine wpF_take 12 (v := ?_) hHeld (by simp only [List.getElem?_toArray, List.getElem?_cons_succ, List.getElem?_cons_zero]; exact rfl) (by kernel_rfl) (by exact fun _ _ _ h => h) (by rfl) ?_ ?_
                  rotate_left
                  · (intro w hSw; (try dsimp only at hSw); go_simp; try with_reducible rfl)
                  try simp only [Act.put, List.setIfInBounds_toArray, List.set_cons_zero, List.set_cons_succ]
                  refine wpF_take 13 (v := ?_) hHeld (by simp only [List.getElem?_toArray, List.getElem?_cons_succ, List.getElem?_cons_zero]; exact rfl) (by kernel_rfl) (by exact fun _ _ _ h => h) (by rfl) ?_ ?_
                  rotate_left
                  · (intro w hSw; (try dsimp only at hSw); go_simp; try with_reducible rfl)
                  try simp only [Act.put, List.setIfInBounds_toArray, List.set_cons_zero, List.set_cons_succ]
                  refine wpF_take 14 (v := ?_) hHeld (by simp only [List.getElem?_toArray, List.getElem?_cons_succ, List.getElem?_cons_zero]; exact rfl) (by kernel_rfl) (by exact fun _ _ _ h => h) (by rfl) ?_ ?_
                  rotate_left
                  · (intro w hSw; (try dsimp only at hSw); go_simp; try with_reducible rfl)
                  try simp only [Act.put, List.setIfInBounds_toArray, List.set_cons_zero, List.set_cons_succ]
                  refine wpF_one 15 (by simp only [List.getElem?_toArray, List.getElem?_cons_succ, List.getElem?_cons_zero]; exact rfl) (by kernel_rfl) (fun KK hKK => ?_)
                  have g1 : wr.drew.cell? ⟨g, k * 3 + 1, none⟩ = some (.slice Av dl cv) := hz'.out.drew.cellAt 2 0 _ rfl rfl hcu1.out
                  have g1b : wr.cell? ⟨g, k * 3 + 1, none⟩ = some (.slice Av dl cv) := hz'.out.cellAt 2 0 _ rfl rfl hcu1.out
                  have g2f : wr.drew.frozen? ⟨g, k * 3 + 1, none⟩ = false := hz'.out.drew.freeAt 2 0 _ rfl rfl
                  have g2g : wr.frozen? ⟨g, k * 3 + 1, none⟩ = false := hz'.out.freeAt 2 0 _ rfl rfl
                  go_simp
                  have hy := ((hz'.out.drew.pick 2 rfl).setCell (k * 3 + 1) (.slice Ac (du + K) cc))
                  refine hKK _ _ ?_ (fun hHeld => ?_)
                  · exact hy.cellAt 2 0 0 rfl rfl rfl
                  clear hKK KK
                  try simp only [Act.put, List.setIfInBounds_toArray, List.set_cons_zero, List.set_cons_succ]
                  refine wpF_take 16 (v := ?_) hHeld (by simp only [List.getElem?_toArray, List.getElem?_cons_succ, List.getElem?_cons_zero]; exact rfl) (by kernel_rfl) (by exact fun _ _ _ h => h) (by rfl) ?_ ?_
                  rotate_left
                  · (intro w hSw; (try dsimp only at hSw); go_simp; try with_reducible rfl)
                  try simp only [Act.put, List.setIfInBounds_toArray, List.set_cons_zero, List.set_cons_succ]
                  refine wpF_take 17 (v := ?_) hHeld (by simp only [List.getElem?_toArray, List.getElem?_cons_succ, List.getElem?_cons_zero]; exact rfl) (by kernel_rfl) (by exact fun _ _ _ h => h) (by rfl) ?_ ?_
                  rotate_left
                  · (intro w hSw; (try dsimp only at hSw); go_simp; try with_reducible rfl)
                  try simp only [Act.put, List.setIfInBounds_toArray, List.set_cons_zero, List.set_cons_succ]
                  refine wpF_one 18 (by simp only [List.getElem?_toArray, List.getElem?_cons_succ, List.getElem?_cons_zero]; exact rfl) (by kernel_rfl) (fun KK hKK => ?_)
                  have g3 := hy.cellAt 0 0 (k * 3 + 2) rfl rfl (v := .int .i64 du) (by rw [Array.getElem?_setIfInBounds_ne (by omega)]; exact hcu2.out)
                  have g4 := hy.freeAt 0 0 (k * 3 + 2) rfl rfl
                  have g3b : wr.cell? ⟨g, k * 3 + 2, none⟩ = some (.int .i64 du) := hz'.out.cellAt 2 0 _ rfl rfl hcu2.out
                  have g4b : wr.frozen? ⟨g, k * 3 + 2, none⟩ = false := hz'.out.freeAt 2 0 _ rfl rfl
                  go_simp
                  have hyz := hy.setCell (k * 3 + 2) (.int .i64 ((du : Int) + (K : Int)))
                  refine hKK _ _ ?_ (fun hHeld => ?_)
                  · exact hyz.cellAt 2 0 0 rfl rfl rfl
                  clear hKK KK
                  try simp only [Act.put, List.setIfInBounds_toArray, List.set_cons_zero, List.set_cons_succ]
                  refine wpF_done (by kernel_rfl) ?_
                  go_wp2_with fail
                  refine ⟨⟨k + 1, j + 2, by omega, by omega, by go_num, by go_num, rs.set k ⟨⟨rk.a.name, zl lim cb, du + K⟩, .slice Ac (du + K) cc, Sq⟩, [(g, .cells ((cur.setIfInBounds (k * 3 + 1) (.slice Ac (du + K) cc)).setIfInBounds (k * 3 + 2) (.int .i64 ((du : Int) + (K : Int)))) 89 (0, 0))], ?_, ?_, ?_, ?_, ?_⟩, by simp [intOf]; omega⟩
                  · have h20 := (show H W _ ([(g, .cells ((cur.setIfInBounds (k * 3 + 1) (.slice Ac (du + K) cc)).setIfInBounds (k * 3 + 2) (.int .i64 ((du : Int) + (K : Int)))) 89 (0, 0))] :: Sq :: rhdr b d.calm (.slice (some ⟨g, 0, none⟩) N c2) :: rdatas rs :: [(fb, .cells #[.string (bstr rk.a.name), .slice Av dl cv, .int .i64 du] 89 (0, 0))] :: L) from hyz)
                    have h21 := (h20.pick 4 rfl).drop
                    have hkr := Hkr.out
                    have h22 : H W _ ([(g, .cells ((cur.setIfInBounds (k * 3 + 1) (.slice Ac (du + K) cc)).setIfInBounds (k * 3 + 2) (.int .i64 ((du : Int) + (K : Int)))) 89 (0, 0))] :: Sq :: rhdr b d.calm (.slice (some ⟨g, 0, none⟩) N c2) :: rdatas rs :: L) := h21
                    rw [rdatas_mid rs k hkr] at h22
                    rw [rdatas_set rs k _ hkr]
                    have h23 : H W _ (rs[k].S :: [(g, .cells ((cur.setIfInBounds (k * 3 + 1) (.slice Ac (du + K) cc)).setIfInBounds (k * 3 + 2) (.int .i64 ((du : Int) + (K : Int)))) 89 (0, 0))] :: Sq :: rhdr b d.calm (.slice (some ⟨g, 0, none⟩) N c2) :: rdatas (rs.take k) :: rdatas (rs.drop (k + 1)) :: L) := h22.re (by intro c hc h0; simp only [List.flatten_cons, hc]; omega)
                    exact h23.drop.re (by intro c hc h0; simp only [List.flatten_cons, hc]; omega)
                  · have hq := Q2.out
                    rw [E2.out] at hq
                    have h24 := own_set (rs := rs) (r' := ⟨⟨rk.a.name, zl lim cb, du⟩, .slice Ac (du + K) cc, Sq⟩) hq Hkr.out (j := 1) (u := .slice Ac (du + K) cc) (by decide) (by rw [Hrk.out, Hrc.out]; rfl)
                    have h25 := own_set (k := k) (r' := ⟨⟨rk.a.name, zl lim cb, du + K⟩, .slice Ac (du + K) cc, Sq⟩) h24 (by rw [List.length_set]; exact Hkr.out) (j := 2) (u := .int .i64 ((du : Int) + (K : Int))) (by decide) (by rw [List.getElem_set_self]; simp [RF.cells])
                    rw [List.set_set] at h25
                    exact h25
                  · rw [Hne.out, Htk.out, crashL_snoc, Q5.out]
                    have hcr : crash1 (ps.drop j) rk.a = ⟨rk.a.name, zl lim cb, du + K⟩ := by
                      unfold crash1
                      rw [if_neg (by rw [Hdl.out, Hdu.out]; exact ht'.out), Hdl.out, Hdu.out, pick_below ps j, ← HKe.out, List.tail_drop, pick_below ps (j + 1), ← HGe.out, Hdt.out, Hcb.out]
                    rw [hcr]; simp
                  · intro q hq
                    rcases List.mem_or_eq_of_mem_set hq with hq | rfl
                    · exact Q4.out q hq
                    · have hzl : (zl lim cb).length = du + K := by rw [zl_len _ _ (by rw [Hcbl.out]; exact hlimK), Hcbl.out]
                      refine ⟨?_, by simp only; rw [hzl]; omega, by simp only; rw [hzl]; exact Nat.le_refl _⟩
                      have h26 := ho'.out
                      rw [Hjn.out] at h26
                      unfold OB
                      rw [hzl]
                      exact h26
                  · rw [Htk.out, picksL_snoc, Q5.out]
                    unfold crashP
                    rw [if_neg (by rw [Hdl.out, Hdu.out]; exact ht'.out), List.tail_drop, List.tail_drop]))
    · have hkn : k = N := by omega
      subst hkn
      go_wp2_with fail
      go_end0
      have h9 := Q3.out
      rw [List.take_of_length_le (by have := hNd'.out; omega), List.drop_eq_nil_of_le (by have := hNd'.out; omega), List.append_nil] at h9
      exact ⟨rfl, _, Sx, rs, (show H W wr (rhdr b (d.crash ps) (.slice A2 k c2) :: Sx :: rdatas rs :: L) from Q1.out), ⟨by rw [Hlen.out]; exact Q2.out, Q4.out, h9, by show (0 : Nat) < _; decide, by rw [Hlen.out]; exact hle⟩⟩
end Go.Proofs.Ytfhoblchgeijkaa
