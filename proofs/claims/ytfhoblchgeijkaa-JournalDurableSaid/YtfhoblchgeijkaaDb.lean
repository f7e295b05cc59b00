import Derived.Test.YtfhoblchgeijkaaDa
import Derived.Deep.CutBlock
set_option linter.unusedVariables false
set_option linter.unusedSimpArgs false
namespace Go.Proofs.Ytfhoblchgeijkaa
open Go.RowKit Go.Maps
variable {W w : World} {L T : List Seg} {S SO SI : Seg} {v : Value} {n l : Bs} {d : AD} {b j : Nat} {a : AJ}

set_option maxRecDepth 100000 in
set_option maxHeartbeats 6400000 in
theorem durable_walk (A : Option Addr) (cl : Nat) (ls : List VB) (Ap : Option Addr) (cp : Nat) (ps : List Int) (at_ arm : Int) (h : H W w L) (ha : SArg L A cl ls Ap cp ps)
    (hl : ls.length ≤ 30) (hp : ps.length ≤ 30) (harm : arm < 9223372036854775808) :
    Calls Try.prog 9 #[.slice A ls.length cl, .int .i64 at_, .int .i64 arm, .slice Ap ps.length cp] w (PTrue W L) := by
  have h' := Lib.hid h
  have ha' := Lib.hid ha
  obtain ⟨lb, hlb⟩ : ∃ lb, lb = ls.map Prod.snd := ⟨_, rfl⟩
  have hlbl : lb.length = ls.length := by rw [hlb]; simp
  have hlbk : ∀ k (hk : k < ls.length), lb[k]? = some (ls[k]).2 := by intro k hk; rw [hlb]; simp [hk]
  obtain ⟨N, hN⟩ : ∃ N, N = ls.length := ⟨_, rfl⟩
  rw [← hN]
  have hN' := Lib.hid hN
  have hlbl' := Lib.hid hlbl
  have hlbk' := Lib.hid hlbk
  have hN30 : N ≤ 30 := by omega
  have g2 : ¬ (30 : Int) < (N : Int) := by omega
  have g5 : ¬ (30 : Int) < (ps.length : Int) := by omega
  clear h ha hlb hlbl hlbk hN hl
  go_enter Try.func9, Try.ntmps9
  go_wp2_with fail
  refine (new_any h'.out).mono ?_
  rintro e w1 ⟨b, rfl, h1⟩
  have h1' := Lib.hid (show Disk W w1 L b (sfile [106] 0 [] 0) from h1)
  clear h1
  go_wp2_with fail
  refine (open_jour (n := [106]) h1'.out (by decide) (by rw [sfile_rd (by decide) _ _ _ (fun _ => rfl)]; decide)).mono ?_
  rw [jopen_none (by decide)]
  rintro e w2 (⟨_, hbad, _⟩ | ⟨j, rfl, _, h2⟩)
  · exact absurd rfl hbad
  obtain ⟨v2, SO2, SI2, hD2, hro2⟩ := h2
  have hD2' := Lib.hid hD2
  clear hD2 h1'
  go_wp2_with fail
  refine (arm_disk hD2'.out arm harm).mono ?_
  rintro e w3 ⟨rfl, h3⟩
  have h3' := Lib.hid (show Jour W w3 L j b [106] ⟨[], 0, false⟩ (AD.new.arm arm) from ⟨v2, SO2, SI2, h3, hro2⟩)
  clear h3 hro2 hD2'
  go_upto_block 0 with fail
  go_cut [12] (fun t w' => ∃ (k s : Nat) (a : AJ) (d : AD), t = .int .i64 k ∧ DI lb k s d ∧ a.safe = s ∧ Jour W w' L j b [106] a d)
  case first =>
    go_wp2_with fail
    go_loopw [12, 13] (fun t i wr => ∃ (k s : Nat) (d : AD), t = .int .i64 k ∧ i = .int .i64 k ∧ DI lb k s d ∧ d.off = false ∧ Jour W wr L j b [106] ⟨lb.take k, s, false⟩ d) (fun _ i _ => N - (intOf i).toNat)
    case atStart => exact ⟨0, 0, _, rfl, rfl, DI.start lb arm, rfl, h3'.out⟩
    case round =>
      obtain ⟨k, s, d, rfl, rfl, hdi, hoff, hj⟩ := hrel
      have hkl := hdi.kl
      rw [hlbl'.out, ← hN'.out] at hkl
      have hdi' := Lib.hid hdi
      have hj' := Lib.hid hj
      have hoff' := Lib.hid hoff
      clear hdi hj hoff h3'
      by_cases hlt : k < N
      · have hki : (k : Int) < (N : Int) := by omega
        have hkl2 : k < ls.length := by rw [← hN'.out]; exact hlt
        obtain ⟨g, o, rfl, hcell⟩ := ha'.out.rows.get (by omega)
        obtain ⟨Ax, cx, hx1, hx2⟩ := ha'.out.each _ (List.getElem_mem hkl2)
        have kc : ∀ w', H W w' L → w'.cell? ⟨g, o + k, none⟩ = some (.slice Ax (ls[k]).2.length cx) := fun w' hw => by rw [← hx1]; exact hcell W w' hw k _ (by simp [hkl2])
        have hbk := hlbk'.out k hkl2
        obtain ⟨x, hx⟩ : ∃ x, (ls[k]).2 = x := ⟨_, rfl⟩
        rw [hx] at kc hx2 hbk
        have kc0 := kc _ hj'.out.h
        have kc' := Lib.hid kc
        have hbk' := Lib.hid hbk
        have hx2' := Lib.hid hx2
        clear hcell hx1 hx hx2 kc hbk
        by_cases hxl : 200 < x.length
        · have g6 : (200 : Int) < (x.length : Int) := by omega
          go_wp2_with fail
          refine (jawake_true hj'.out.h).mono ?_
          rintro e w9 ⟨rfl, h9⟩
          go_wp2_with fail
          go_ret
          exact ⟨rfl, h9⟩
        · have g6 : ¬ (200 : Int) < (x.length : Int) := by omega
          have hroom := hdi'.out.room (by omega) (12 + x.length) (by omega)
          have hlk : (lb.take k).length = k := by rw [List.length_take, hlbl'.out]; omega
          have happ := append_jour hj'.out hx2'.out (by decide) (by decide) (by omega) hroom.1 hroom.2 (by show (lb.take k).length < _; omega)
          have hda := hdi'.out.app hoff'.out hbk'.out (by omega)
          rw [AJ.appE_ok _ _ _ _ _ (by omega), AJ.appD_ok _ _ _ _ _ (by omega), hlk] at happ
          have htk : lb.take (k + 1) = lb.take k ++ [x] := by rw [List.take_add_one, hbk'.out]; rfl
          have hac := appE_cases (d := d) (n := [106]) (by decide)
          have haok := AJ.app_ok (lb.take k) s d [106] x (by omega)
          have hano : d.appE [106] ≠ 0 → AJ.app ⟨lb.take k, s, false⟩ d [106] x = ⟨lb.take k, s, true⟩ := by
            intro h0; unfold AJ.app; rw [if_neg (by omega), if_neg (by simp), if_neg h0]
          generalize d.app [106] (frameV (UInt64.ofNat k) x) = d2 at happ hda
          generalize AJ.app ⟨lb.take k, s, false⟩ d [106] x = a2 at happ haok hano
          generalize d.appE [106] = y at happ hda hac haok hano
          have happ' := Lib.hid happ
          have hda' := Lib.hid hda
          have htk' := Lib.hid htk
          have haok' := Lib.hid haok
          have hano' := Lib.hid hano
          have hlk' := Lib.hid hlk
          clear happ hda htk hroom haok hano hlk hj' hoff' hdi' hbk'
          rcases hac with rfl | rfl
          · obtain rfl := haok'.out rfl
            rw [← htk'.out] at happ'
            obtain ⟨hd2, hoa⟩ := hda'.out
            have ho2 := Lib.hid (hoa rfl)
            have hd2 := Lib.hid hd2
            have happ2 := Lib.hid happ'.out
            clear hda' happ' haok' hano' hoa
            by_cases hat : (k : Int) = at_
            · have g7 : ((k : Int) == at_) = true := by simpa using hat
              clear hat
              go_wp2_with fail
              refine happ2.out.mono ?_
              rintro e w5 ⟨rfl, h5⟩
              have hsy := sync_jour h5 (by decide) (by decide)
              have hne : lb.take (k + 1) ≠ [] := by rw [htk'.out]; simp
              have hds := hd2.out.sync ho2.out (by omega)
              have hcc := chgE_cases (d := d2) (n := [106]) (by decide)
              have e1 : AJ.syncE ⟨lb.take (k + 1), s, false⟩ d2 [106] = d2.chgE [106] := by unfold AJ.syncE; rw [if_neg (by simp), if_neg hne]
              have e2 : AJ.sync ⟨lb.take (k + 1), s, false⟩ d2 [106] = if d2.chgE [106] = 0 then ⟨lb.take (k + 1), k + 1, false⟩ else ⟨lb.take (k + 1), s, true⟩ := by
                unfold AJ.sync; rw [if_neg (by simp), if_neg hne]; simp only [List.length_take, hlbl'.out]; rw [Nat.min_eq_left (by omega)]
              have e3 : AJ.syncD ⟨lb.take (k + 1), s, false⟩ d2 [106] = d2.chg [106] (syncF [106]) := by unfold AJ.syncD; rw [if_neg (by simp), if_neg hne]
              rw [e1, e2, e3] at hsy
              generalize d2.chg [106] (syncF [106]) = d4 at hsy hds
              generalize d2.chgE [106] = z at hsy hds hcc
              have hsy' := Lib.hid hsy
              have hds' := Lib.hid hds
              clear hsy hds h5 hne e1 e2 e3 happ2
              by_cases hz : z = 0
              · subst hz
                obtain ⟨hd4, ho4⟩ := hds'.out.1 rfl
                have hd4 := Lib.hid hd4
                have ho4 := Lib.hid ho4
                rw [if_pos rfl] at hsy'
                clear hds' hcc
                go_wp2_with fail
                refine hsy'.out.mono ?_
                rintro e w6 ⟨rfl, h6⟩
                have h6' := Lib.hid h6
                clear h6 hsy'
                go_wp2_with fail
                exact ⟨⟨k + 1, k + 1, d4, by go_num, by go_num, hd4.out, ho4.out, h6'.out⟩, by simp [intOf]; omega⟩
              · have f1 : (z != 0) = true := by simpa using hz
                have hd4 := Lib.hid (hds'.out.2 hz)
                rw [if_neg hz] at hsy'
                clear hds' hcc hz
                go_wp2_with fail
                refine hsy'.out.mono ?_
                rintro e w6 ⟨rfl, h6⟩
                have h6' := Lib.hid h6
                clear h6 hsy'
                go_wp2_with fail
                go_meet
                exact ⟨k + 1, s, _, d4, by go_num, hd4.out, rfl, h6'.out⟩
            · have g7 : ((k : Int) == at_) = false := by simpa using hat
              clear hat
              go_wp2_with fail
              refine happ2.out.mono ?_
              rintro e w5 ⟨rfl, h5⟩
              have h5' := Lib.hid h5
              clear h5 happ2
              go_wp2_with fail
              exact ⟨⟨k + 1, s, d2, by go_num, by go_num, hd2.out, ho2.out, h5'.out⟩, by simp [intOf]; omega⟩
          · obtain rfl := hano'.out (by decide)
            obtain ⟨hd2, _⟩ := hda'.out
            have hd2 := Lib.hid hd2
            have happ2 := Lib.hid happ'.out
            clear hda' happ' haok' hano'
            go_wp2_with fail
            refine happ2.out.mono ?_
            rintro e w5 ⟨rfl, h5⟩
            have h5' := Lib.hid h5
            clear h5 happ2
            go_wp2_with fail
            go_meet
            exact ⟨k + 1, s, _, d2, by go_num, hd2.out, rfl, h5'.out⟩
      · obtain rfl : k = N := by omega
        go_wp2_with fail
        go_meet
        exact ⟨k, s, _, d, rfl, hdi'.out, rfl, hj'.out⟩
  case rest =>
    obtain ⟨k, s, a, d, rfl, hdi, hsa, hj⟩ := hcut
    have hkl := hdi.kl
    rw [hlbl'.out, ← hN'.out] at hkl
    have hsk := hdi.sk
    have hsm := Lib.hid hdi.small
    obtain ⟨dt, du, hcr, hdt0, hdtl, m, hpm⟩ := hdi.crash (by omega) ps
    obtain ⟨ys, m2, hym⟩ : ∃ ys m2, parseV dt 0 0 = (ys, m2) := ⟨_, _, rfl⟩
    rw [hym] at hpm
    simp only at hpm
    have hbd := parseV_bound dt _ 0 0 (Nat.le_refl _) (by omega)
    rw [hym] at hbd
    simp only at hbd
    obtain ⟨hb1, hb2⟩ := hbd
    have hys : s ≤ ys.length := by rw [hpm, List.length_append, List.length_take, hlbl'.out]; have := hN'.out; omega
    obtain ⟨d', hjo⟩ := jopen_sfile (n := [106]) (by decide) k dt du hdt0
    rw [hym] at hjo
    simp only at hjo
    have hj3 := synced_jour hj
    rw [hsa] at hj3
    have hri : RI L (.slice Ap ps.length cp) ps := ⟨ha'.out.picks, ⟨_, _, rfl, ha'.out.room⟩, ha'.out.ints, by omega⟩
    obtain ⟨v3, SO3, SI3, hD3, hro3, _, _⟩ := hj
    have hcd := crash_disk hD3 (((hri.cons SI3).cons SO3).cons _) (by
      intro f hf
      rw [hdi.fs] at hf
      cases k with
      | zero => rw [sfile_fs0] at hf; simp at hf
      | succ i => rw [sfile_fs1] at hf; simp at hf; subst hf; show [106].length ≤ maxLen; decide)
    rw [hcr] at hcd
    have hrd : (sfile [106] k dt du).rd [106] = dt := sfile_rd (by decide) _ _ _ hdt0
    have hj3' := Lib.hid hj3
    have hcd' := Lib.hid hcd
    have hrd' := Lib.hid hrd
    have hym' := Lib.hid hym
    have hjo' := Lib.hid hjo
    have hro3' := Lib.hid hro3
    clear hj3 hcd hrd hym hjo hri hD3 hro3 hpm hdi hcr hdt0 h3'
    go_wp2_with fail
    refine hj3'.out.mono ?_
    rintro e w4 ⟨rfl, rfl⟩
    go_wp2_with fail
    refine hcd'.out.mono ?_
    rintro e w5 ⟨rfl, h5⟩
    have h5' := Lib.hid h5
    clear h5 hcd' hj3'
    go_wp2_with fail
    refine (read_disk (n := [106]) h5'.out (by decide)).mono ?_
    rintro e w6 ⟨A6, c6, S6, rfl, h6, o6⟩
    rw [hrd'.out] at o6 ⊢
    obtain ⟨M6, SM6, rs6, hM6, hk6⟩ := h6
    have hcap : dt.length ≤ c6 := by
      obtain ⟨_, _, q1, q2⟩ := o6.cap
      simp only [Value.slice.injEq] at q1
      omega
    have hpar := parse_ref hM6 ((((o6.rs (jhdr 99 j b [106] v3 a.safe a.dead :: SO3 :: SI3 :: L)).cons _).cons _).cons _) hcap (by omega)
    rw [hym'.out] at hpar
    have hpar' := Lib.hid hpar
    have hk6' := Lib.hid hk6
    have hM6' := Lib.hid hM6
    clear hM6 hk6 hpar hcap o6 h5'
    generalize (sfile [106] k dt du).existE [106] = xx
    go_wp2_with fail
    refine hpar'.out.mono ?_
    rintro e w7 ⟨A7, c7, SO7, SI7, rfl, h7, r7⟩
    have hD7 := Lib.hid (show Disk W w7 (SO7 :: SI7 :: S6 :: jhdr 99 j b [106] v3 a.safe a.dead :: SO3 :: SI3 :: L) b (sfile [106] k dt du) from ⟨M6, SM6, rs6, h7.re (by intro c hc h0; simp only [List.flatten_cons, hc]; omega), hk6'.out⟩)
    have r7' := Lib.hid r7
    clear h7 r7 hpar' hk6' hM6'
    go_wp2_with fail
    refine (open_jour (n := [106]) hD7.out (by decide) (by rw [hrd'.out]; omega)).mono ?_
    rw [hjo'.out]
    rintro e w8 (⟨_, hbad, _⟩ | ⟨q, rfl, _, h8⟩)
    · exact absurd rfl hbad
    have h8' := Lib.hid h8
    clear h8 hD7
    go_wp2_with fail
    refine (records_jour h8'.out).mono ?_
    rintro e w9 ⟨A9, c9, SO9, SI9, rfl, h9, r9⟩
    obtain ⟨v8, SO8, SI8, ⟨M8, SM8, rs8, h8a, _⟩, hro8, _, _⟩ := h9
    obtain ⟨LL, hLL⟩ : ∃ LL, LL = dhdr b M8 d' :: SM8 :: frs rs8 :: jhdr 99 q b [106] v8 ys.length false :: SO8 :: SI8 :: SO9 :: SI9 :: SO7 :: SI7 :: S6 :: jhdr 99 j b [106] v3 a.safe a.dead :: SO3 :: SI3 :: L := ⟨_, rfl⟩
    have f1 : ∀ w, H W w LL → w.cell? ⟨q, 3, none⟩ = some (.int .i64 ys.length) := by
      intro w hw; rw [hLL] at hw; exact hw.cellAt 3 0 3 rfl rfl rfl
    have f2 : RRows LL (.slice A7 ys.length c7) ys := by
      rw [hLL]
      exact ((((((((r7'.out.reads (by omega) _).cons _).cons _).cons _).cons _).cons _).cons _).cons _).cons _
    have f3 : RRows LL (.slice A9 ys.length c9) ys := by
      rw [hLL]
      exact ((((((r9.reads (by show ys.length ≤ _; omega) _).cons _).cons _).cons _).cons _).cons _).cons _
    have f4 : ∀ w, H W w LL → H W w L := by
      intro w hw; rw [hLL] at hw; exact hw.drop.drop.drop.drop.drop.drop.drop.drop.drop.drop.drop.drop.drop.drop
    have hLLw : H W w9 LL := by rw [hLL]; exact h8a
    have f1 := Lib.hid f1
    have f2 := Lib.hid f2
    have f3 := Lib.hid f3
    have f4 := Lib.hid f4
    have hLLw := Lib.hid hLLw
    clear h8a hro8 hLL r9 r7' h8' hro3'
    go_wp2_with fail
    refine (rows_any hLLw.out f3.out f2.out).mono ?_
    simp only [decide_true]
    rintro e w10 ⟨rfl, h10⟩
    have h10' := Lib.hid h10
    have k3 := f1.out w10 h10
    clear h10 hLLw f3
    go_wp2_with fail
    refine (synced_at k3).mono ?_
    rintro e w11 ⟨rfl, rfl⟩
    clear k3
    go_wp2_with fail
    go_loopw [21] (fun i wr => ∃ i' : Nat, i' ≤ ys.length ∧ i = .int .i64 i' ∧ H W wr LL) (fun i _ => ys.length - (intOf i).toNat)
    case atStart => exact ⟨0, Nat.zero_le _, rfl, h10'.out⟩
    case round =>
      obtain ⟨i', hi, rfl, hw⟩ := hrel
      have hw' := Lib.hid hw
      clear hw h10'
      by_cases hlt : i' < ys.length
      · have hji : (i' : Int) < (ys.length : Int) := by omega
        by_cases hik : k ≤ i'
        · have g8 : (k : Int) ≤ (i' : Int) := by omega
          go_wp2_with fail
          go_quiet (fail)
          go_wp2_with fail
          refine (jawake_true (f4.out _ (hw'.out.drewN nq))).mono ?_
          rintro e w12 ⟨rfl, h12⟩
          go_wp2_with fail
          go_ret
          exact ⟨rfl, h12⟩
        · have g8 : ¬ (k : Int) ≤ (i' : Int) := by omega
          have hiN : i' < ls.length := by rw [← hN'.out]; omega
          obtain ⟨y, hy⟩ : ∃ y, ys[i']? = some y := ⟨_, List.getElem?_eq_getElem hlt⟩
          obtain ⟨xs1, rx1, _, re1⟩ := f2.out
          obtain ⟨x1, hx1, hl1, _⟩ := re1 i' y hy
          obtain ⟨X1, y1, rfl⟩ := hl1.2.form
          obtain ⟨g1, o1, rfl, hc1⟩ := rx1.get (by omega)
          have kc1 := hc1 W wr hw'.out i' _ hx1
          obtain ⟨g, o, rfl, hcell⟩ := ha'.out.rows.get (by omega)
          obtain ⟨Ax, cx, hx1b, hx2⟩ := ha'.out.each _ (List.getElem_mem hiN)
          have kc2 : wr.cell? ⟨g, o + i', none⟩ = some (.slice Ax (ls[i']).2.length cx) := by rw [← hx1b]; exact hcell W wr (f4.out _ hw'.out) i' _ (by simp [hiN])
          obtain ⟨x, hx⟩ : ∃ x, (ls[i']).2 = x := ⟨_, rfl⟩
          rw [hx] at kc2 hx2
          have hxl : x.length ≤ 140737488355328 := by
            have h1 := hlbk'.out i' hiN
            rw [hx] at h1
            have h2 : (lb.take k)[i']? = some x := by rw [List.getElem?_take, if_pos (by omega), h1]
            have := hsm.out x (List.mem_of_getElem? h2)
            omega
          have kv1 : ∀ i, (convert 27 9 (.slice X1 y.length y1)).run Try.prog (wr.drewN i) = .ok (.string (bstr y)) (wr.drewN i) := fun i => RL.conv (hw'.out.drewN i) hl1
          have kv2 : ∀ i, (convert 27 9 (.slice Ax x.length cx)).run Try.prog (wr.drewN i) = .ok (.string (bstr x)) (wr.drewN i) := fun i => RL.conv (f4.out _ (hw'.out.drewN i)) ⟨hxl, hx2⟩
          have kn := bstr_toList
          clear hc1 hcell hx1 hx1b hx2 hx hl1 hy rx1 re1 hxl
          cases he : y == x with
          | true =>
            go_wp2_with fail
            go_quiet (fail)
            go_wp2_with fail
            exact ⟨⟨i' + 1, by omega, by go_num, hw'.out.drewN nq⟩, by simp [intOf]; omega⟩
          | false =>
            go_wp2_with fail
            go_quiet (fail)
            go_wp2_with fail
            refine (jawake_true (f4.out _ (hw'.out.drewN nq))).mono ?_
            rintro e w12 ⟨rfl, h12⟩
            go_wp2_with fail
            go_ret
            exact ⟨rfl, h12⟩
      · obtain rfl : i' = ys.length := by omega
        have g9 : (s : Int) ≤ (ys.length : Int) := by omega
        go_wp2_with fail
        refine (jawake_true (f4.out _ hw'.out)).mono ?_
        rintro e w12 ⟨rfl, h12⟩
        go_wp2_with fail
        go_ret
        exact ⟨rfl, h12⟩

set_option maxHeartbeats 1600000 in
theorem durable_any (A : Option Addr) (cl : Nat) (ls : List VB) (Ap : Option Addr) (cp : Nat) (ps : List Int) (at_ arm : Int) (h : H W w L) (ha : SArg L A cl ls Ap cp ps) (harm : arm < 9223372036854775808) :
    Calls Try.prog 9 #[.slice A ls.length cl, .int .i64 at_, .int .i64 arm, .slice Ap ps.length cp] w (PTrue W L) := by
  have h' := Lib.hid h
  by_cases c2 : 30 < ls.length
  · have g2 : (30 : Int) < (ls.length : Int) := by omega
    clear ha h
    go_enter Try.func9, Try.ntmps9
    go_wp2_with fail
    refine (jawake_true h'.out).mono ?_
    rintro e w9 ⟨rfl, h9⟩
    go_wp2_with fail
    go_ret
    exact ⟨rfl, h9⟩
  by_cases c5 : 30 < ps.length
  · have g2 : ¬ (30 : Int) < (ls.length : Int) := by omega
    have g5 : (30 : Int) < (ps.length : Int) := by omega
    clear ha h
    go_enter Try.func9, Try.ntmps9
    go_wp2_with fail
    refine (jawake_true h'.out).mono ?_
    rintro e w9 ⟨rfl, h9⟩
    go_wp2_with fail
    go_ret
    exact ⟨rfl, h9⟩
  exact durable_walk A cl ls Ap cp ps at_ arm h ha (by omega) (by omega) harm
end Go.Proofs.Ytfhoblchgeijkaa
