import Derived.Test.YtfhoblchgeijkaaJD
import Derived.Test.YtfhoblchgeijkaaOp
set_option linter.unusedVariables false
set_option linter.unusedSimpArgs false
/-! part Jx -/
namespace Go.Proofs.Ytfhoblchgeijkaa
open Go.RowKit Go.Maps

/-! Plain laws: what was framed is read back. -/
theorem or_step (v : UInt64) (c : UInt8) (h : v.toNat < 72057594037927936) : (v <<< 8 ||| c.toUInt64).toNat = v.toNat * 256 + c.toNat := by
  have hc : c.toNat < 256 := c.toNat_lt
  rw [UInt64.toNat_or, UInt64.toNat_shiftLeft, UInt8.toNat_toUInt64]
  have e1 : v.toNat <<< ((8 : UInt64).toNat % 64) % 2 ^ 64 = v.toNat <<< 8 := by
    rw [show (8 : UInt64).toNat % 64 = 8 from rfl, Nat.shiftLeft_eq]
    exact Nat.mod_eq_of_lt (by omega)
  rw [e1, ← Nat.shiftLeft_add_eq_or_of_lt (by simpa using hc), Nat.shiftLeft_eq]
theorem numB_b4 (x : UInt64) (h : x.toNat < 4294967296) : (numB (b4 x)).toNat = x.toNat := by
  have e : numB (b4 x) = (((((0 : UInt64) <<< 8 ||| (UInt8.ofNat (x.toNat / 16777216)).toUInt64) <<< 8 ||| (UInt8.ofNat (x.toNat / 65536)).toUInt64) <<< 8 ||| (UInt8.ofNat (x.toNat / 256)).toUInt64) <<< 8 ||| (UInt8.ofNat x.toNat).toUInt64) := rfl
  have b0 : (UInt8.ofNat (x.toNat / 16777216)).toNat = x.toNat / 16777216 % 256 := by rw [UInt8.toNat_ofNat']
  have b1 : (UInt8.ofNat (x.toNat / 65536)).toNat = x.toNat / 65536 % 256 := by rw [UInt8.toNat_ofNat']
  have b2 : (UInt8.ofNat (x.toNat / 256)).toNat = x.toNat / 256 % 256 := by rw [UInt8.toNat_ofNat']
  have b3 : (UInt8.ofNat x.toNat).toNat = x.toNat % 256 := by rw [UInt8.toNat_ofNat']
  have s0 := or_step 0 (UInt8.ofNat (x.toNat / 16777216)) (by decide)
  rw [b0, show (0 : UInt64).toNat = 0 from rfl] at s0
  generalize hv0 : (0 : UInt64) <<< 8 ||| (UInt8.ofNat (x.toNat / 16777216)).toUInt64 = v0 at *
  have s1 := or_step v0 (UInt8.ofNat (x.toNat / 65536)) (by omega)
  rw [b1, s0] at s1
  generalize hv1 : v0 <<< 8 ||| (UInt8.ofNat (x.toNat / 65536)).toUInt64 = v1 at *
  have s2 := or_step v1 (UInt8.ofNat (x.toNat / 256)) (by omega)
  rw [b2, s1] at s2
  generalize hv2 : v1 <<< 8 ||| (UInt8.ofNat (x.toNat / 256)).toUInt64 = v2 at *
  have s3 := or_step v2 (UInt8.ofNat x.toNat) (by omega)
  rw [b3, s2] at s3
  rw [e, s3]
  omega

theorem sub_mid (p q r : List UInt8) (i j : Nat) (hi : i = p.length) (hj : j = p.length + q.length) : sub (p ++ q ++ r) i j = q := by
  subst hi hj
  unfold sub
  rw [List.append_assoc, List.drop_left, show p.length + q.length - p.length = q.length by omega, List.take_left]

theorem stepP_frame (k : Nat) (b pre post : Bs) (hb : b.length ≤ 65536) : stepP (pre ++ frameV (UInt64.ofNat k) b ++ post) k pre.length = some b := by
  have hlen : ((UInt64.ofNat b.length).toNat) = b.length := by rw [UInt64.toNat_ofNat']; omega
  have e0 : pre ++ frameV (UInt64.ofNat k) b ++ post = pre ++ b4 (UInt64.ofNat b.length) ++ (ofB (chk (UInt64.ofNat k) b) ++ b ++ post) := by simp [frameV, List.append_assoc]
  have e1 : pre ++ frameV (UInt64.ofNat k) b ++ post = (pre ++ b4 (UInt64.ofNat b.length)) ++ ofB (chk (UInt64.ofNat k) b) ++ (b ++ post) := by simp [frameV, List.append_assoc]
  have e2 : pre ++ frameV (UInt64.ofNat k) b ++ post = (pre ++ b4 (UInt64.ofNat b.length) ++ ofB (chk (UInt64.ofNat k) b)) ++ b ++ post := by simp [frameV, List.append_assoc]
  have hla : lenAt (pre ++ frameV (UInt64.ofNat k) b ++ post) pre.length = b.length := by
    unfold lenAt
    rw [e0, sub_mid _ _ _ _ _ rfl (by rw [b4_len]), numB_b4 _ (by rw [hlen]; omega), hlen]
  have hs1 : sub (pre ++ frameV (UInt64.ofNat k) b ++ post) (pre.length + 12) (pre.length + 12 + b.length) = b := by
    rw [e2, sub_mid _ _ _ _ _ (by simp [b4_len, ofB_len]) (by simp [b4_len, ofB_len])]
  have hs2 : sub (pre ++ frameV (UInt64.ofNat k) b ++ post) (pre.length + 4) (pre.length + 12) = ofB (chk (UInt64.ofNat k) b) := by
    rw [e1, sub_mid _ _ _ _ _ (by simp [b4_len]) (by simp [b4_len, ofB_len])]
  unfold stepP
  rw [hla, hs1, hs2, if_pos ⟨by simp [frameV_len]; omega, hb, by simp [frameV_len]; omega, rfl⟩]

/-- The frames of records, from the position k on. -/
def framesV (k : Nat) : List Bs → Bs
  | [] => []
  | b :: l => frameV (UInt64.ofNat k) b ++ framesV (k + 1) l
theorem framesV_snoc (b : Bs) : ∀ (l : List Bs) (k : Nat), framesV k (l ++ [b]) = framesV k l ++ frameV (UInt64.ofNat (k + l.length)) b
  | [], k => by simp [framesV]
  | c :: l, k => by simp [framesV, framesV_snoc b l (k + 1), List.append_assoc, Nat.add_assoc, Nat.add_comm 1]
/-- Frames at the start are read. -/
theorem parse_frames (post : Bs) : ∀ (l : List Bs) (k : Nat) (pre : Bs), (∀ b ∈ l, b.length ≤ 65536) →
    parseV (pre ++ framesV k l ++ post) k pre.length = (l ++ (parseV (pre ++ framesV k l ++ post) (k + l.length) (pre.length + (framesV k l).length)).1, (parseV (pre ++ framesV k l ++ post) (k + l.length) (pre.length + (framesV k l).length)).2)
  | [], k, pre, _ => by simp [framesV]
  | b :: l, k, pre, hb => by
    have e : pre ++ framesV k (b :: l) ++ post = (pre ++ frameV (UInt64.ofNat k) b) ++ framesV (k + 1) l ++ post := by simp [framesV, List.append_assoc]
    have e2 : pre ++ framesV k (b :: l) ++ post = pre ++ frameV (UInt64.ofNat k) b ++ (framesV (k + 1) l ++ post) := by simp [framesV, List.append_assoc]
    have hs := stepP_frame k b pre (framesV (k + 1) l ++ post) (hb b (by simp))
    rw [← e2] at hs
    rw [parseV_some hs]
    have ih := parse_frames post l (k + 1) (pre ++ frameV (UInt64.ofNat k) b) (fun c hc => hb c (by simp [hc]))
    rw [← e] at ih
    have el : (pre ++ frameV (UInt64.ofNat k) b).length = pre.length + 12 + b.length := by simp [frameV_len]; omega
    rw [el] at ih
    have e3 : pre.length + 12 + b.length + (framesV (k + 1) l).length = pre.length + (framesV k (b :: l)).length := by simp [framesV, frameV_len]; omega
    have e4 : k + 1 + l.length = k + (b :: l).length := by simp; omega
    rw [e3, e4] at ih
    rw [ih]
    simp
/-- Frames alone. -/
theorem parse_only (l : List Bs) (hb : ∀ b ∈ l, b.length ≤ 65536) : parseV (framesV 0 l) 0 0 = (l, (framesV 0 l).length) := by
  have h := parse_frames [] l 0 [] hb
  simp only [List.nil_append, List.append_nil, List.length_nil, Nat.zero_add] at h
  have hs : stepP (framesV 0 l) l.length (framesV 0 l).length = none := by
    unfold stepP
    rw [if_neg (fun hh => by omega)]
  rw [parseV_none hs] at h
  simpa using h
theorem parse_pre (l : List Bs) (post : Bs) (hb : ∀ b ∈ l, b.length ≤ 65536) : ∃ m, (parseV (framesV 0 l ++ post) 0 0).1 = l ++ m := by
  have h := parse_frames post l 0 [] hb
  simp only [List.nil_append, List.length_nil, Nat.zero_add] at h
  exact ⟨_, by rw [h]⟩

theorem crash_none (n : Bs) (i : Nat) (dt : Bs) (du : Nat) (h : du ≤ dt.length) (hi : i ≠ 0) : (sfile n i dt du).crash [] = sfile n i (dt.take du) du := by
  simp only [sfile, hi, if_false, AD.crash, crashL]
  congr 2
  unfold crash1
  by_cases he : dt.length = du
  · rw [if_pos he, List.take_of_length_le (by omega)]
  · rw [if_neg he]
    simp [belowV, dmgL]

/-- The part that Parse accepted reads the same. -/
theorem stepP_cut {c : Bs} {k at' m : Nat} {b : Bs} (h : stepP c k at' = some b) (hm : at' + 12 + b.length ≤ m) : stepP (c.take m) k at' = some b := by
  have hl := stepP_len h
  unfold stepP at h
  split at h
  · rename_i hc
    simp only [Option.some.injEq] at h
    obtain ⟨h1, h2, h3, h4⟩ := hc
    have hbl : b.length = lenAt c at' := by rw [← h, sub_len h3]; omega
    have key : ∀ i j, j ≤ m → sub (c.take m) i j = sub c i j := by
      intro i j hj
      unfold sub
      rw [List.drop_take, List.take_take]
      congr 1
      omega
    have hla : lenAt (c.take m) at' = lenAt c at' := by unfold lenAt; rw [key _ _ (by omega)]
    have hcl : (c.take m).length = min m c.length := by rw [List.length_take]
    unfold stepP
    rw [hla, key _ _ (by omega), key _ _ (by omega), if_pos ⟨by omega, h2, by omega, h4⟩, h]
  · simp at h
theorem parse_cut (c : Bs) : ∀ (m k at' : Nat), c.length - at' ≤ m → at' ≤ c.length → parseV (c.take (parseV c k at').2) k at' = parseV c k at'
  | m, k, at', hm, hat => by
    cases hs : stepP c k at' with
    | none =>
      rw [parseV_none hs]
      have : stepP (c.take at') k at' = none := by
        unfold stepP
        rw [if_neg (fun hh => by have := hh.1; rw [List.length_take] at this; omega)]
      rw [parseV_none this]
    | some b =>
      have h1 := stepP_len hs
      cases m with
      | zero => omega
      | succ m =>
        have ih := parse_cut c m (k + 1) (at' + 12 + b.length) (by omega) (by omega)
        have hbd := parseV_bound c _ (k + 1) (at' + 12 + b.length) (Nat.le_refl _) (by omega)
        rw [parseV_some hs]
        simp only
        rw [parseV_some (stepP_cut hs (by omega)), ih]
end Go.Proofs.Ytfhoblchgeijkaa

/-! part Jy -/
namespace Go.Proofs.Ytfhoblchgeijkaa
open Go.RowKit Go.Maps
variable {W w : World} {L T : List Seg} {S SO SI : Seg} {v : Value} {n l : Bs} {d : AD} {b j : Nat} {a : AJ}

theorem AJ.appE_ok (recs : List Bs) (s : Nat) (d : AD) (n l : Bs) (hl : l.length ≤ 65536) : AJ.appE ⟨recs, s, false⟩ d n l = d.appE n := by unfold AJ.appE; rw [if_neg (by omega), if_neg (by simp)]
theorem AJ.app_ok (recs : List Bs) (s : Nat) (d : AD) (n l : Bs) (hl : l.length ≤ 65536) (h : d.appE n = 0) : AJ.app ⟨recs, s, false⟩ d n l = ⟨recs ++ [l], s, false⟩ := by unfold AJ.app; rw [if_neg (by omega), if_neg (by simp), if_pos h]
theorem AJ.appD_ok (recs : List Bs) (s : Nat) (d : AD) (n l : Bs) (hl : l.length ≤ 65536) : AJ.appD ⟨recs, s, false⟩ d n l = d.app n (frameV (UInt64.ofNat recs.length) l) := by unfold AJ.appD; rw [if_neg (by omega), if_neg (by simp)]

theorem jf_app (hn : n ≠ []) (i : Nat) (ls : List Bs) (du : Nat) (b : Bs) (h0 : i = 0 → ls = [] ∧ du = 0) : (sfile n i (framesV 0 ls) du).app n (frameV (UInt64.ofNat ls.length) b) = sfile n (i + 1) (framesV 0 (ls ++ [b])) du := by
  rw [sfile_app hn i _ _ _ (by intro h; obtain ⟨rfl, h2⟩ := h0 h; exact ⟨rfl, h2⟩), framesV_snoc, Nat.zero_add]
theorem jf_sync (hn : n ≠ []) (i : Nat) (dt : Bs) (du : Nat) : (sfile n (i + 1) dt du).chg n (syncF n) = sfile n (i + 1) dt dt.length := by
  rw [sfile_sync hn _ _ _ (by omega), if_neg (by omega)]
theorem jopen_none (hn : n ≠ []) (dt : Bs) (du : Nat) : (sfile n 0 dt du).jopen n = (sfile n 0 dt du, 0, []) := by
  unfold AD.jopen
  rw [sfile_existE hn, if_pos rfl, if_pos rfl]
theorem jopen_frames (hn : n ≠ []) (i : Nat) (ls : List Bs) (du : Nat) (hb : ∀ b ∈ ls, b.length ≤ 65536) : (sfile n (i + 1) (framesV 0 ls) du).jopen n = (sfile n (i + 1) (framesV 0 ls) (framesV 0 ls).length, 0, ls) := by
  have h1 : (sfile n (i + 1) (framesV 0 ls) du).rd n = framesV 0 ls := sfile_rd hn _ _ _ (by omega)
  have h2 : (sfile n (i + 1) (framesV 0 ls) du).jcut n = sfile n (i + 1) (framesV 0 ls) du := by
    unfold AD.jcut; rw [h1, parse_only ls hb, if_neg (by simp)]
  have h3 : (sfile n (i + 1) (framesV 0 ls) du).jcutE n = 0 := by
    unfold AD.jcutE; rw [h1, parse_only ls hb, if_neg (by simp)]
  have h4 : (sfile n (i + 1) (framesV 0 ls) du).existE n = 0 := by rw [sfile_existE hn, if_neg (by omega)]
  have h5 : (sfile n (i + 1) (framesV 0 ls) du).chgE n = 0 := by rw [sfile_chgE hn, if_neg (by omega)]
  unfold AD.jopen
  rw [h4, if_neg (by decide), if_neg (by decide), h3, if_neg (by decide), h2, h5, if_neg (by decide), jf_sync hn, h1, parse_only ls hb]

theorem Jour.alloc (h : Jour W w L j b n a d) (o : Obj) : Jour W (w.alloc o) ([(w.heap.size, o)] :: L) j b n a d := by
  obtain ⟨v, SO, SI, hD, hr⟩ := h
  obtain ⟨M, SM, rs, hM, hk⟩ := hD.alloc o
  exact ⟨v, SO, SI, ⟨M, SM, rs, hM.re (by intro c hc h0; simp only [List.flatten_cons, hc]; omega), hk⟩, hr⟩
theorem Jour.drop {A : Seg} (h : Jour W w (A :: L) j b n a d) : Jour W w L j b n a d := by
  obtain ⟨v, SO, SI, hD, hr⟩ := h
  obtain ⟨M, SM, rs, hM, hk⟩ := hD
  exact ⟨v, SO, SI, ⟨M, SM, rs, (hM.pick 6 rfl).drop, hk⟩, hr⟩
theorem Jour.h (h : Jour W w L j b n a d) : H W w L := by
  obtain ⟨v, SO, SI, hD, hr⟩ := h
  exact hD.h.drop.drop.drop

theorem append_lit (h : Jour W w L j b n a d) (fr : Nat × Nat) (l : Bs) (hl : l.length ≤ 65536) (hn0 : n ≠ []) (hn : n.length ≤ 1099511627776) (hroom : d.room (12 + l.length)) (hfl : d.fs.length < 1099511627776) (hN : a.recs.length < 1099511627000) :
    Calls Try.prog 30 #[.pointer (some ⟨j, 0, none⟩), .slice (some ⟨w.heap.size, 0, none⟩) l.length l.length] (w.alloc (.cells (u8s l).toArray 5 fr)) (PJ (a.appE d n l) W L j b n (a.app d n l) (a.appD d n l)) := by
  refine (append_jour (h.alloc (.cells (u8s l).toArray 5 fr)) (lit_rl l (by omega) fr L).2 hn0 hn (by omega) hroom hfl hN).mono ?_
  rintro e w' ⟨rfl, h2⟩
  exact ⟨rfl, h2.drop⟩
theorem synced_at {s : Int} (k3 : w.cell? ⟨j, 3, none⟩ = some (.int .i64 s)) : Calls Try.prog 38 #[.pointer (some ⟨j, 0, none⟩)] w fun e w' => e = .returned (.int .i64 s) ∧ w = w' := by
  go_enter Try.func38, Try.ntmps38
  go_wp2_with fail
  go_ret
  exact ⟨rfl, rfl⟩

def fa : List Bs := [[97]]
def fb : List Bs := [[97], [98, 99]]
theorem fa_len : (framesV 0 fa).length = 13 := by simp [fa, framesV, frameV_len]
theorem fb_take : (framesV 0 fb).take 13 = framesV 0 fa := by
  have e : framesV 0 fb = framesV 0 fa ++ frameV (UInt64.ofNat 1) [98, 99] := framesV_snoc [98, 99] fa 0
  rw [e, List.take_append_of_le_length (by rw [fa_len]; exact Nat.le_refl _), List.take_of_length_le (by rw [fa_len]; exact Nat.le_refl _)]
theorem fb_len : (framesV 0 fb).length = 27 := by simp [fb, framesV, frameV_len]

set_option maxRecDepth 100000 in
set_option maxHeartbeats 6400000 in
theorem jawake_true (h : H W w L) : Calls Try.prog 24 #[] w (PTrue W L) := by
  have h' := Lib.hid h
  clear h
  have kcv := conv27
  go_enter Try.func24, Try.ntmps24
  go_wp2_with fail
  have hlit := Lib.hid (h'.out.alloc (.cells (u8s [97]).toArray 5 (1, 2)))
  refine (frame_proN 0 hlit.out (lit_rl [97] (by decide) (1, 2) L).2 (by decide) (by decide)).mono ?_
  rintro e w1 ⟨A1, c1, S1, rfl, h1, o1⟩
  have hF : frameV (UInt64.ofNat 0) [97] = framesV 0 fa := by simp [fa, framesV]
  rw [hF, fa_len] at o1
  rw [hF, fa_len]
  have h1' := Lib.hid h1.drop1
  have hu3 : (u8s (framesV 0 fa))[3]? = some (.int .u8 1) := by
    rw [← hF]; simp [u8s, frameV, b4]
  obtain ⟨g1, q1, rfl, hc1⟩ := (o1.rs L).get (by decide)
  have hc1' := Lib.hid (fun (w : World) (h : H W w (S1 :: L)) => hc1 W w h 3 _ hu3)
  clear h1 o1 hc1 hu3 hF hlit
  go_wp2_with fail
  refine (new_any h1'.out).mono ?_
  rintro e w2 ⟨b, rfl, h2⟩
  have h2' := Lib.hid (show Disk W w2 (S1 :: L) b (sfile [106] 0 [] 0) from h2)
  clear h2
  go_wp2_with fail
  refine (open_jour (n := [106]) h2'.out (by decide) (by rw [sfile_rd (by decide) _ _ _ (fun _ => rfl)]; decide)).mono ?_
  rw [jopen_none (by decide)]
  rintro e w3 (⟨_, hbad, _⟩ | ⟨j, rfl, _, h3⟩)
  · exact absurd rfl hbad
  have h3' := Lib.hid h3
  clear h3
  go_wp2_with fail
  refine (append_lit h3'.out (1, 2) [97] (by decide) (by decide) (by decide) (by intro f hf; simp [sfile] at hf) (by decide) (by decide)).mono ?_
  rw [AJ.appE_ok _ _ _ _ _ (by decide), sfile_appE (by decide), AJ.app_ok _ _ _ _ _ (by decide) (sfile_appE (by decide) _ _ _), AJ.appD_ok _ _ _ _ _ (by decide), show frameV (UInt64.ofNat ([] : List Bs).length) [97] = frameV (UInt64.ofNat ([] : List Bs).length) [97] from rfl,
    show (sfile [106] 0 [] 0).app [106] (frameV (UInt64.ofNat ([] : List Bs).length) [97]) = sfile [106] 1 (framesV 0 fa) 0 from jf_app (by decide) 0 [] 0 [97] (fun _ => ⟨rfl, rfl⟩)]
  rintro e w4 ⟨rfl, h4⟩
  have h4' := Lib.hid (show Jour W w4 (S1 :: L) j b [106] ⟨fa, 0, false⟩ (sfile [106] 1 (framesV 0 fa) 0) from h4)
  clear h4
  go_wp2_with fail
  refine (sync_jour h4'.out (by decide) (by decide)).mono ?_
  rw [show AJ.syncE ⟨fa, 0, false⟩ (sfile [106] 1 (framesV 0 fa) 0) [106] = 0 from by unfold AJ.syncE; rw [if_neg (by decide), if_neg (by decide), sfile_chgE (by decide)]; rfl,
    show AJ.sync ⟨fa, 0, false⟩ (sfile [106] 1 (framesV 0 fa) 0) [106] = ⟨fa, 1, false⟩ from by unfold AJ.sync; rw [if_neg (by decide), if_neg (by decide), sfile_chgE (by decide)]; rfl,
    show AJ.syncD ⟨fa, 0, false⟩ (sfile [106] 1 (framesV 0 fa) 0) [106] = sfile [106] 1 (framesV 0 fa) 13 from by unfold AJ.syncD; rw [if_neg (by decide), if_neg (by decide), jf_sync (by decide), fa_len]]
  rintro e w5 ⟨rfl, h5⟩
  have h5' := Lib.hid h5
  clear h5
  go_wp2_with fail
  refine (append_lit h5'.out (2, 3) [98, 99] (by decide) (by decide) (by decide) (by intro f hf; simp [sfile] at hf; subst hf; simp only; rw [fa_len]; decide) (by decide) (by decide)).mono ?_
  rw [AJ.appE_ok _ _ _ _ _ (by decide), sfile_appE (by decide), AJ.app_ok _ _ _ _ _ (by decide) (sfile_appE (by decide) _ _ _), AJ.appD_ok _ _ _ _ _ (by decide),
    show (sfile [106] 1 (framesV 0 fa) 13).app [106] (frameV (UInt64.ofNat fa.length) [98, 99]) = sfile [106] 2 (framesV 0 fb) 13 from jf_app (by decide) 1 fa 13 [98, 99] (fun h => by omega)]
  rintro e w6 ⟨rfl, h6⟩
  have h6' := Lib.hid (show Jour W w6 (S1 :: L) j b [106] ⟨fb, 1, false⟩ (sfile [106] 2 (framesV 0 fb) 13) from h6)
  clear h6
  go_wp2_with fail
  obtain ⟨v6, SO, SI, hD6, hro, _, _⟩ := h6'.out
  refine (crash_disk (ps := []) hD6 ⟨⟨rfl, .inl ⟨rfl, none, 0, rfl⟩⟩, ⟨none, 0, rfl, Nat.le_refl _⟩, by simp, by simp⟩ (by intro f hf; simp [sfile] at hf; subst hf; decide)).mono ?_
  rw [crash_none _ _ _ _ (by rw [fb_len]; decide) (by decide), fb_take]
  rintro e w7 ⟨rfl, h7⟩
  have h7' := Lib.hid h7
  have hro' := Lib.hid hro
  clear h7 hD6 hro
  go_wp2_with fail
  refine (open_jour (n := [106]) h7'.out (by decide) (by rw [sfile_rd (by decide) _ _ _ (fun h => by omega), fa_len]; decide)).mono ?_
  rw [jopen_frames (by decide) 1 fa 13 (by decide), fa_len]
  rintro e w8 (⟨_, hbad, _⟩ | ⟨k, rfl, _, h8⟩)
  · exact absurd rfl hbad
  have h8' := Lib.hid h8
  clear h8
  go_wp2_with fail
  refine (records_jour h8'.out).mono ?_
  rintro e w9 ⟨A9, c9, SO9, SI9, rfl, h9, r9⟩
  have rr9 := r9.reads (by decide) (jhdr 99 j b [106] v6 1 false :: SO :: SI :: S1 :: L)
  obtain ⟨xs9, rx9, _, re9⟩ := rr9
  obtain ⟨x9, hx9, hl9, _⟩ := re9 0 [97] rfl
  obtain ⟨X9, y9, rfl⟩ := hl9.2.form
  obtain ⟨g9, q9, rfl, hc9⟩ := rx9.get (by decide)
  have hx9' := Lib.hid hx9
  have hl9' := Lib.hid hl9
  have hc9' := Lib.hid hc9
  have e13 := hc1'.out w9 h9.h.drop.drop.drop.drop.drop
  obtain ⟨v8, SO8, SI8, ⟨M8, SM8, rs8, h8a, _⟩, hro8, _, _⟩ := h9
  have h8a' := Lib.hid h8a
  have k3j : w9.cell? ⟨j, 3, none⟩ = some (.int .i64 1) := h8a.cellAt 8 0 3 rfl rfl rfl
  obtain ⟨A6, c6, rfl, _⟩ := hro'.out.cap
  have k2j : w9.cell? ⟨j, 2, none⟩ = some (.slice A6 fb.length c6) := h8a.cellAt 8 0 2 rfl rfl rfl
  have hrr : RRows (dhdr b M8 (sfile [106] (1 + 1) (framesV 0 fa) 13) :: SM8 :: frs rs8 :: jhdr 99 k b [106] v8 fa.length false :: SO8 :: SI8 :: SO9 :: SI9 :: jhdr 99 j b [106] (.slice A6 fb.length c6) 1 false :: SO :: SI :: S1 :: L) (.slice A6 fb.length c6) fb :=
    (((((((((hro'.out.reads (by decide) (S1 :: L)).cons _).cons _).cons _).cons _).cons _).cons _).cons _).cons _).cons _
  have hrr' := Lib.hid hrr
  clear hx9 hl9 hc9 rx9 re9 r9 h8a hro8 hrr h8' h7' h6' h5' h4' h3' h2' h1'
  go_wp2_with fail
  refine (synced_at k3j).mono ?_
  rintro e w10 ⟨rfl, rfl⟩
  go_wp2_with fail
  refine (records_any (s := 1) (dead := false) h8a'.out k2j hrr'.out).mono ?_
  rintro e w11 ⟨A11, c11, SO11, SI11, rfl, h11, r11⟩
  have k9 : w11.cell? ⟨g9, q9, none⟩ = some (.slice X9 1 y9) := by
    have := hc9'.out W w11 (show H W w11 (SO9 :: SI9 :: jhdr 99 j b [106] (.slice A6 fb.length c6) 1 false :: SO :: SI :: S1 :: L) from h11.drop.drop.drop.drop.drop.drop.drop.drop) 0 _ hx9'.out
    exact this
  have kv9 : (convert 27 9 (.slice X9 1 y9)).run Try.prog w11 = .ok (.string (bstr [97])) w11 := RL.conv (show H W w11 (SO9 :: SI9 :: jhdr 99 j b [106] (.slice A6 fb.length c6) 1 false :: SO :: SI :: S1 :: L) from h11.drop.drop.drop.drop.drop.drop.drop.drop) hl9'.out
  have k3k : w11.cell? ⟨k, 3, none⟩ = some (.int .i64 1) := h11.cellAt 5 0 3 rfl rfl rfl
  have kse2 : (bstr [97]).toList = ({ data := #[97] } : ByteArray).toList := rfl
  have h11' := Lib.hid (show H W w11 L from h11.drop.drop.drop.drop.drop.drop.drop.drop.drop.drop.drop.drop.drop.drop)
  clear h11 r11 e13 k2j k3j hrr' h8a'
  go_wp2_with fail
  refine (synced_at k3k).mono ?_
  rintro e w12 ⟨rfl, rfl⟩
  go_wp2_with fail
  refine (append_jnil none 0 0 w11).mono ?_
  rintro e w12 ⟨rfl, rfl⟩
  go_wp2_with fail
  refine (sync_jnil w11).mono ?_
  rintro e w12 ⟨rfl, rfl⟩
  go_wp2_with fail
  refine (records_nil w11).mono ?_
  rintro e w12 ⟨rfl, rfl⟩
  go_wp2_with fail
  refine (synced_nil w11).mono ?_
  rintro e w12 ⟨rfl, rfl⟩
  go_wp2_with fail
  go_ret
  exact ⟨rfl, h11'.out⟩
end Go.Proofs.Ytfhoblchgeijkaa

/-! part Jz -/
namespace Go.Proofs.Ytfhoblchgeijkaa
open Go.RowKit Go.Maps
variable {W w : World} {L T : List Seg} {S SO SI : Seg} {v : Value} {n l : Bs} {d : AD} {b j : Nat} {a : AJ}

theorem rs_pre {A : Option Addr} {c m : Nat} {l : List UInt8} (hr : RS L 1 (.slice A l.length c) l.length (u8s l)) (hm : m ≤ l.length) : RS L 1 (.slice A (l.take m).length c) (l.take m).length (u8s (l.take m)) := by
  have h := rs_sub (c' := c) hr (i := 0) (j := m) (Nat.zero_le _) hm A (fun _ => by cases A with | none => rfl | some a => simp [Addr.add])
  have e : sub l 0 m = l.take m := by simp [sub]
  rw [e, Nat.sub_zero] at h
  have e2 : (l.take m).length = m := by rw [List.length_take]; omega
  rw [e2] at h ⊢
  exact h

set_option maxRecDepth 100000 in
set_option maxHeartbeats 3200000 in
theorem jparse_walk {A : Option Addr} {cc : Nat} {c : Bs} (h : H W w L) (hr : RS L 1 (.slice A c.length cc) c.length (u8s c)) (hc : c.length ≤ cc) :
    Calls Try.prog 7 #[.slice A c.length cc] w (PTrue W L) := by
  by_cases hbig : 5000 < c.length
  · have hbi : (5000 : Int) < (c.length : Int) := by omega
    have h' := Lib.hid h
    clear h hr
    go_enter Try.func7, Try.ntmps7
    go_wp2_with fail
    refine (jawake_true h'.out).mono ?_
    rintro e w1 ⟨rfl, h1⟩
    go_wp2_with fail
    go_ret
    exact ⟨rfl, h1⟩
  have hbi : ¬ (5000 : Int) < (c.length : Int) := by omega
  have hp1 := parse_pro h hr hc (by omega)
  obtain ⟨ls, m, hlm⟩ : ∃ ls m, parseV c 0 0 = (ls, m) := ⟨_, _, rfl⟩
  have hbd := parseV_bound c _ 0 0 (Nat.le_refl _) (by omega)
  have hcut := parse_cut c _ 0 0 (Nat.le_refl _) (by omega)
  rw [hlm] at hp1 hbd hcut
  simp only at hbd hcut
  obtain ⟨hb1, hb2⟩ := hbd
  have hsl : ∀ w, (Instr.slice 27 (.slice A c.length cc) none (some (.int .i64 (m : Int))) none).run Try.prog w = .ok (.slice A m cc) w := fun w => slice_pre8 (by omega) _ rfl w
  have htk : (c.take m).length = m := by rw [List.length_take]; omega
  have hpre := rs_pre hr hb2
  have hlm' := Lib.hid hlm
  have hp1' := Lib.hid hp1
  have hr' := Lib.hid hr
  have hpre' := Lib.hid hpre
  have hcut' := Lib.hid hcut
  have htk' := Lib.hid htk
  have hmm : m ≤ cc := by omega
  clear h hr hp1 hlm hcut hpre htk hbig
  go_enter Try.func7, Try.ntmps7
  go_wp2_with fail
  refine hp1'.out.mono ?_
  rintro e w1 ⟨A1, c1, SO1, SI1, rfl, h1, r1⟩
  have hp2 := parse_ref h1 ((hr'.out.cons SI1).cons SO1) hc (by omega)
  rw [hlm'.out] at hp2
  have hp2' := Lib.hid hp2
  have r1' := Lib.hid r1
  clear h1 r1 hp1' hp2
  simp only
  go_wp2_with fail
  refine hp2'.out.mono ?_
  rintro e w2 ⟨A2, c2, SO2, SI2, rfl, h2, r2⟩
  have h2' := Lib.hid h2
  have r2' := Lib.hid r2
  clear h2 r2 hp2'
  go_wp2_with fail
  refine (rows_any h2'.out (((r1'.out.reads (by show ls.length ≤ _; omega) L).cons SI2).cons SO2) (r2'.out.reads (by show ls.length ≤ _; omega) _)).mono ?_
  simp only [decide_true]
  rintro e w3 ⟨rfl, h3⟩
  have h3' := Lib.hid h3
  clear h3 h2'
  go_wp2_with fail
  have hp3 := parse_pro (c := c.take m) h3'.out ((((hpre'.out.cons SI1).cons SO1).cons SI2).cons SO2) (by rw [htk'.out]; exact hmm) (by rw [htk'.out]; omega)
  rw [htk'.out, hcut'.out] at hp3
  refine hp3.mono ?_
  rintro e w4 ⟨A4, c4, SO4, SI4, rfl, h4, r4⟩
  have h4' := Lib.hid h4
  have r4' := Lib.hid r4
  clear h4 r4 hp3 h3'
  go_wp2_with fail
  refine (rows_any h4'.out (r4'.out.reads (by show ls.length ≤ _; omega) _) (((((r1'.out.reads (by show ls.length ≤ _; omega) L).cons SI2).cons SO2).cons SI4).cons SO4)).mono ?_
  simp only [decide_true]
  rintro e w5 ⟨rfl, h5⟩
  have h5' := Lib.hid h5.drop.drop.drop.drop.drop.drop
  clear h5 h4'
  go_wp2_with fail
  refine (jawake_true h5'.out).mono ?_
  rintro e w6 ⟨rfl, h6⟩
  go_wp2_with fail
  go_ret
  exact ⟨rfl, h6⟩

open Go.ChangeShapes Go.WideShapes Go.ChangeAt in
/-- The bytes of a slice that came in, and its capacity. -/
theorem open_bytesC {H' : Type} {enc : TypeId × Value → H'} {W : World} {sp : Nat → Bool} {fuel : Nat} {v : Value} {x : DataW H' × List MemPlace} (h : DataW.trod enc Try.prog W 0 sp true fuel 27 [v] = some x) :
    ∃ A c d, v = .slice A (d : List UInt8).length c ∧ RS [old W] 1 (.slice A d.length c) d.length (u8s d) ∧ d.length ≤ c := by
  obtain ⟨A, c, d, rfl, hr⟩ := open_bytes h
  refine ⟨A, c, d, rfl, hr, ?_⟩
  rcases open_ints Try.underlying27 Try.underlying5 pc5 h with ⟨hcs, _⟩ | ⟨a, len, cap, zs, hcs, _, hl, _⟩
  · have h1 : Value.slice A d.length c = .slice Option.none 0 0 := by simpa using hcs
    simp only [Value.slice.injEq] at h1
    omega
  · have h1 : Value.slice A d.length c = .slice (some a) len cap := by simpa using hcs
    simp only [Value.slice.injEq] at h1
    omega
end Go.Proofs.Ytfhoblchgeijkaa
