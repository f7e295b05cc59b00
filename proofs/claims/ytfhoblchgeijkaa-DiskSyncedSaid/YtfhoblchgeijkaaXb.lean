import Derived.Test.YtfhoblchgeijkaaXa
import Derived.Test.YtfhoblchgeijkaaOp
namespace Go.Proofs.Ytfhoblchgeijkaa
open Go.RowKit Go.Maps
variable {W w : World} {L T : List Seg} {v : Value} {l n bs : Bs} {b M : Nat} {d : AD} {SM X S : Seg} {rs rs1 rs2 : List FR} {r : FR} {fs : List (Bs × Nat)}

/-- One file of the name n, or none. -/
def sfile (n : Bs) (i : Nat) (dt : Bs) (du : Nat) : AD := ⟨if i = 0 then [] else [⟨n, dt, du⟩], false, false, 0⟩

theorem sfile_app (hn : n ≠ []) (i : Nat) (dt c : Bs) (du : Nat) (h0 : i = 0 → dt = [] ∧ du = 0) : (sfile n i dt du).app n c = sfile n (i + 1) (dt ++ c) du := by
  unfold sfile AD.app AD.openE
  rw [if_neg hn]
  simp only [Bool.false_eq_true, if_false, if_true, AD.wrote]
  congr 1
  unfold AD.appF AD.find
  by_cases h : i = 0
  · obtain ⟨rfl, rfl⟩ := h0 h
    simp [h, insL]
  · simp [h, updL]
theorem sfile_appE (hn : n ≠ []) (i : Nat) (dt : Bs) (du : Nat) : (sfile n i dt du).appE n = 0 := by
  unfold sfile AD.appE AD.openE AD.writes; simp [hn]
theorem sfile_chgE (hn : n ≠ []) (i : Nat) (dt : Bs) (du : Nat) : (sfile n i dt du).chgE n = if i = 0 then 6 else 0 := by
  unfold sfile AD.chgE AD.existE AD.writes AD.find
  by_cases h : i = 0 <;> simp [h, hn]
theorem sfile_existE (hn : n ≠ []) (i : Nat) (dt : Bs) (du : Nat) : (sfile n i dt du).existE n = if i = 0 then 6 else 0 := by
  unfold sfile AD.existE AD.find
  by_cases h : i = 0 <;> simp [h, hn]
theorem sfile_rd (hn : n ≠ []) (i : Nat) (dt : Bs) (du : Nat) (h0 : i = 0 → dt = []) : (sfile n i dt du).rd n = dt := by
  unfold AD.rd
  rw [sfile_existE hn]
  by_cases h : i = 0
  · simp [h, h0 h]
  · simp [h, sfile, AD.find]
theorem sfile_sync (hn : n ≠ []) (i : Nat) (dt : Bs) (du : Nat) (h0 : i = 0 → du = 0 ∧ dt = []) : (sfile n i dt du).chg n (syncF n) = sfile n i dt (if i = 0 then 0 else dt.length) := by
  unfold AD.chg
  rw [sfile_existE hn]
  by_cases h : i = 0
  · obtain ⟨rfl, rfl⟩ := h0 h
    simp [h, sfile]
  · simp [h, sfile, AD.writes, AD.wrote, syncF, updL]

theorem dmgL_prefix (g k m : Nat) (c : Bs) (hk : k ≤ c.length - m) (hm : m ≤ c.length) : (dmgL g k c).take m = c.take m := by
  unfold dmgL
  split
  · rename_i h
    rw [List.take_set_of_le (by omega)]
  · split
    · rw [List.take_append_of_le_length (by rw [List.length_take]; omega), List.take_take, Nat.min_eq_left (by omega)]
    · rfl

theorem crash1_prefix (ps : List Int) (f : AF) (h : f.dur ≤ f.data.length) : (crash1 ps f).data.take f.dur = f.data.take f.dur ∧ f.dur ≤ (crash1 ps f).data.length ∧ (crash1 ps f).data.length ≤ f.data.length := by
  unfold crash1; split
  · exact ⟨rfl, h, Nat.le_refl _⟩
  · have := belowV_lt ps (f.data.length - f.dur + 1) (by omega)
    have hl : (f.data.take (f.dur + belowV ps (f.data.length - f.dur + 1))).length = f.dur + belowV ps (f.data.length - f.dur + 1) := by rw [List.length_take]; omega
    simp only
    refine ⟨?_, ?_, ?_⟩
    · rw [dmgL_prefix _ _ _ _ (by rw [hl]; omega) (by rw [hl]; omega), List.take_take, Nat.min_eq_left (by omega)]
    · rw [dmgL_length _ _ _ (by rw [hl]; omega), hl]; omega
    · rw [dmgL_length _ _ _ (by rw [hl]; omega), hl]; omega

theorem sfile_crash (i : Nat) (dt : Bs) (du : Nat) (ps : List Int) (h : du ≤ dt.length) : ∃ dt' du', (sfile n i dt du).crash ps = sfile n i dt' du' ∧ dt'.take du = dt.take du ∧ du ≤ dt'.length ∧ dt'.length ≤ dt.length := by
  by_cases h0 : i = 0
  · exact ⟨dt, du, by simp [sfile, h0, AD.crash, crashL], rfl, h, Nat.le_refl _⟩
  · have := crash1_prefix ps ⟨n, dt, du⟩ h
    refine ⟨(crash1 ps ⟨n, dt, du⟩).data, (crash1 ps ⟨n, dt, du⟩).dur, ?_, this.1, this.2.1, this.2.2⟩
    have hnm := crash1_name ps ⟨n, dt, du⟩
    simp only [sfile, h0, if_false, AD.crash, crashL]
    congr 2
    cases hc : crash1 ps ⟨n, dt, du⟩ with
    | mk a b c => rw [hc] at hnm; simp only at hnm; rw [hnm]

theorem RS.get {A : Option Addr} {N cap : Nat} {xs : List Value} (h : RS L 1 (.slice A N cap) N xs) (hN : 0 < N) : ∃ g o, A = some ⟨g, o, none⟩ ∧ ∀ W w, H W w L → ∀ k u, xs[k]? = some u → w.cell? ⟨g, o + k, none⟩ = some u := by
  rcases h.2 with ⟨h0, _⟩ | ⟨g, o, cap', c, E, fr, h1, h2, h3⟩
  · omega
  · simp only [Value.slice.injEq] at h1
    obtain ⟨rfl, _, rfl⟩ := h1
    exact ⟨g, o, rfl, fun W w hH k u hk => hH.cell h2 (h3 k u hk)⟩

theorem add_bstr (a c : Bs) (h : a.length + c.length ≤ 9223372036854775807) (w : World) : (Op.stringOp .add (bstr a) (bstr c)).run Try.prog w = .ok (.string (bstr (a ++ c))) w := by
  have e : bstr a ++ bstr c = bstr (a ++ c) := by
    apply ByteArray.ext
    simp [bstr]
  rw [← e]
  exact run_string_add_sum w (bstr a) (bstr c) (by rw [bstr_size, bstr_size]; exact h)

theorem RL.front {A : Option Addr} {cap m : Nat} (h : RL L (.slice A l.length cap) l) (hm : m ≤ l.length) : RL L (.slice A m cap) (l.take m) := by
  have hlen : (l.take m).length = m := by rw [List.length_take]; omega
  refine ⟨by have := h.1; omega, by simp [u8s], ?_⟩
  rw [hlen]
  rcases h.2.2 with ⟨h0, _⟩ | ⟨g, o, cap', c, E, fr, h1, h2, h3⟩
  · left; exact ⟨by omega, A, cap, by rw [show m = 0 by omega]⟩
  · simp only [Value.slice.injEq] at h1
    obtain ⟨rfl, _, rfl⟩ := h1
    refine .inr ⟨g, o, cap, c, E, fr, rfl, h2, fun j u hu => h3 j u ?_⟩
    have : u8s (l.take m) = (u8s l).take m := by simp [u8s]
    rw [this, List.getElem?_take] at hu
    split at hu
    · exact hu
    · simp at hu

/-- The rows of DiskSynced's argument. -/
structure SArg (L : List Seg) (A : Option Addr) (cl : Nat) (ls : List VB) (Ap : Option Addr) (cp : Nat) (ps : List Int) : Prop where
  rows : RS L 1 (.slice A ls.length cl) ls.length (ls.map Prod.fst)
  each : ∀ y ∈ ls, VB.ok L y
  picks : RS L 1 (.slice Ap ps.length cp) ps.length (i64s ps)
  room : ps.length ≤ cp
  ints : ∀ p ∈ ps, InI p

set_option maxRecDepth 100000 in
set_option maxHeartbeats 6400000 in
theorem synced_walk (nm : Bs) (A : Option Addr) (cl : Nat) (ls : List VB) (Ap : Option Addr) (cp : Nat) (ps : List Int) (at_ : Int) (h : H W w L) (ha : SArg L A cl ls Ap cp ps)
    (hn0 : nm ≠ []) (hn1 : nm.length ≤ 100) (hl : ls.length ≤ 30) (ht0 : 0 ≤ at_) (ht1 : at_ ≤ ls.length) (hp : ps.length ≤ 100) :
    Calls Try.prog 3 #[.string (bstr nm), .slice A ls.length cl, .int .i64 at_, .slice Ap ps.length cp] w (PTrue W L) := by
  have h' := Lib.hid h
  have ha' := Lib.hid ha
  have hn0' := Lib.hid hn0
  have hnl := Lib.hid (show nm.length ≤ 1099511627776 by omega)
  have hnl2 := Lib.hid (show nm.length ≤ maxLen by unfold maxLen; omega)
  have ks : (bstr nm).toList.isEmpty = false := by rw [bstr_toList]; simpa using hn0
  have kz := bstr_size nm
  have g1 : decide ((100 : Int) < (nm.length : Int)) = false := by simp; omega
  have g2 : decide ((30 : Int) < (ls.length : Int)) = false := by simp; omega
  have g3 : decide (at_ < 0) = false := by simp; omega
  have g4 : decide ((ls.length : Int) < at_) = false := by simp; omega
  have g5 : decide ((100 : Int) < (ps.length : Int)) = false := by simp; omega
  clear h ha hn0
  go_enter Try.func3, Try.ntmps3
  go_wp2_with (go_at_call 11; refine (new_any h'.out).mono ?_; rintro e w1 ⟨b, rfl, h1⟩; have h1' := Lib.hid (show Disk W w1 L b (sfile nm 0 [] 0) from h1); clear h1)
  go_loopw [10, 11, 12] (fun sf al i wr => ∃ k : Nat, k ≤ ls.length ∧ i = .int .i64 k ∧ ∃ (AL : Bs) (du : Nat), al = .string (bstr AL) ∧ sf = .string (bstr (AL.take du)) ∧ AL.length ≤ 200 * k ∧ du ≤ AL.length ∧ (k = 0 → AL = [] ∧ du = 0) ∧ Disk W wr L b (sfile nm k AL du)) (fun _ _ i _ => ls.length - (intOf i).toNat)
  case atStart => exact ⟨0, Nat.zero_le _, rfl, [], 0, rfl, rfl, by simp, by simp, fun _ => ⟨rfl, rfl⟩, h1'.out⟩
  case round =>
    obtain ⟨k, hk, rfl, AL, du, rfl, rfl, hAL, hdu, hk0, hd⟩ := hrel
    have hd' := Lib.hid hd
    have hk0' := Lib.hid hk0
    clear hd hk0 h1'
    by_cases hlt : k < ls.length
    · have hki : (k : Int) < (ls.length : Int) := by omega
      obtain ⟨g, o, rfl, hcell⟩ := ha'.out.rows.get (by omega)
      obtain ⟨Ax, cx, hx1, hx2⟩ := ha'.out.each _ (List.getElem_mem hlt)
      have kc : ∀ w', H W w' L → w'.cell? ⟨g, o + k, none⟩ = some (.slice Ax (ls[k]).2.length cx) := fun w' hw => by rw [← hx1]; exact hcell W w' hw k _ (by simp [hlt])
      obtain ⟨x, hx⟩ : ∃ x, (ls[k]).2 = x := ⟨_, rfl⟩
      rw [hx] at kc hx2
      have kc0 := kc _ hd'.out.h
      have kc' := Lib.hid kc
      clear kc
      have hx' := Lib.hid hx
      have hx2' := Lib.hid hx2
      clear hcell hx1 hx hx2
      by_cases hxl : 200 < x.length
      · have g6 : decide ((200 : Int) < (x.length : Int)) = true := by simp; omega
        go_wp2_with (go_at_call 10; refine (awake_true hd'.out.h).mono ?_; rintro e w9 ⟨rfl, h9⟩)
        go_ret
        exact ⟨rfl, h9⟩
      · have g6 : decide ((200 : Int) < (x.length : Int)) = false := by simp; omega
        have hadd := add_bstr AL x (by omega)
        have hxr : RL L (.slice Ax x.length cx) x := ⟨by omega, hx2'.out⟩
        have hxr' := Lib.hid hxr
        clear hxr
        by_cases hat : (k : Int) = at_
        · subst hat
          go_wp2_with fail
          by_cases hk1 : k = 0
          · subst hk1
            obtain ⟨rfl, rfl⟩ := hk0'.out rfl
            refine (sync_disk (n := nm) hd'.out hnl.out).mono ?_
            rw [sfile_chgE hn0'.out, if_pos rfl, sfile_sync hn0'.out _ _ _ (fun _ => ⟨rfl, rfl⟩), if_pos rfl]
            rintro e w3 ⟨rfl, h3⟩
            have h3' := Lib.hid h3
            clear h3
            have kc1 := kc'.out _ h3'.out.h
            rw [Nat.add_zero] at kc1
            go_wp2_with fail
            refine (app_disk (n := nm) h3'.out hxr'.out hnl.out (by omega) (by intro f hf; simp [sfile] at hf) (by simp [sfile])).mono ?_
            rw [sfile_app hn0'.out _ _ _ _ (fun _ => ⟨rfl, rfl⟩), sfile_appE hn0'.out]
            rintro e w4 ⟨rfl, h4⟩
            have hcv : (convert 27 9 (.slice Ax x.length cx)).run Try.prog w4 = .ok (.string (bstr x)) w4 := RL.conv h4.h hxr'.out
            have kc2 := kc'.out _ h4.h
            rw [Nat.add_zero] at kc2
            have h4' := Lib.hid h4
            clear h4
            go_wp2_with fail
            go_roundw
            case rel =>
              (repeat apply Exists.intro)
              exact ⟨⟨1, by omega, by go_num, [] ++ x, 0, rfl, rfl, by simp; omega, by simp, fun h => by omega, h4'.out⟩, rfl⟩
            case measure => simp [intOf]; omega
          · have hkp : decide ((0 : Int) < (k : Int)) = true := by simp; omega
            have hkq : 0 < k := by omega
            refine (sync_disk (n := nm) hd'.out hnl.out).mono ?_
            rw [sfile_chgE hn0'.out, if_neg hk1, sfile_sync hn0'.out _ _ _ (fun h0 => absurd h0 hk1), if_neg hk1]
            rintro e w3 ⟨rfl, h3⟩
            have h3' := Lib.hid h3
            clear h3
            have kc1 := kc'.out _ h3'.out.h
            go_wp2_with fail
            refine (app_disk (n := nm) h3'.out hxr'.out hnl.out (by omega) (by intro f hf; simp only [sfile, if_neg hk1] at hf; simp at hf; subst hf; simp only; omega) (by simp only [sfile, if_neg hk1]; simp)).mono ?_
            rw [sfile_app hn0'.out _ _ _ _ (fun h0 => absurd h0 hk1), sfile_appE hn0'.out]
            rintro e w4 ⟨rfl, h4⟩
            have hcv : (convert 27 9 (.slice Ax x.length cx)).run Try.prog w4 = .ok (.string (bstr x)) w4 := RL.conv h4.h hxr'.out
            have kc2 := kc'.out _ h4.h
            have h4' := Lib.hid h4
            clear h4
            go_wp2_with fail
            go_roundw
            case rel => exact ⟨k + 1, by omega, by go_num, AL ++ x, AL.length, rfl, by rw [List.take_left], by simp; omega, by simp, fun h => by omega, h4'.out⟩
            case measure => simp [intOf]; omega
        · have g7 : ((k : Int) == at_) = false := by simpa using hat
          go_wp2_with fail
          refine (app_disk (n := nm) hd'.out hxr'.out hnl.out (by omega) (by intro f hf; simp only [sfile] at hf; split at hf <;> simp at hf; subst hf; simp only; omega) (by simp only [sfile]; split <;> simp)).mono ?_
          rw [sfile_app hn0'.out _ _ _ _ hk0'.out, sfile_appE hn0'.out]
          rintro e w3 ⟨rfl, h3⟩
          have hcv : (convert 27 9 (.slice Ax x.length cx)).run Try.prog w3 = .ok (.string (bstr x)) w3 := RL.conv h3.h hxr'.out
          have kc2 := kc'.out _ h3.h
          have h3' := Lib.hid h3
          clear h3
          go_wp2_with fail
          go_roundw
          case rel => exact ⟨k + 1, by omega, by go_num, AL ++ x, du, rfl, by rw [List.take_append_of_le_length hdu], by simp; omega, by simp; omega, fun h => by omega, h3'.out⟩
          case measure => simp [intOf]; omega
    · have hkn : k = ls.length := by omega
      obtain ⟨dt', du', q1, q2, q3, q4⟩ := sfile_crash (n := nm) k AL du ps hdu
      have hri : RI L (.slice Ap ps.length cp) ps := ⟨ha'.out.picks, ⟨_, _, rfl, ha'.out.room⟩, ha'.out.ints, by omega⟩
      have hri' := Lib.hid hri
      have q1' := Lib.hid q1
      have q2' := Lib.hid q2
      clear hri q1 q2
      subst hkn
      go_wp2_with fail
      refine (crash_disk hd'.out hri'.out (by intro f hf; simp only [sfile] at hf; split at hf <;> simp at hf; subst hf; exact hnl2.out)).mono ?_
      rw [q1'.out]
      rintro e w3 ⟨rfl, h3⟩
      have h3' := Lib.hid h3
      clear h3
      go_wp2_with fail
      refine (read_disk (n := nm) h3'.out hnl2.out).mono ?_
      rintro e w4 ⟨A4, c4, S4, rfl, h4, h5⟩
      have hdt0 : ls.length = 0 → dt' = [] := fun h0 => by
        have := (hk0'.out h0).1; subst this; exact List.eq_nil_of_length_eq_zero (by simpa using q4)
      rw [sfile_rd hn0'.out _ _ _ hdt0] at h5 ⊢
      rw [sfile_existE hn0'.out]
      have hrl := RL.front (h5.rl (by omega) L) q3
      rw [q2'.out] at hrl
      have hcv : (convert 27 9 (.slice A4 du c4)).run Try.prog w4 = .ok (.string (bstr (AL.take du))) w4 := by
        have := RL.conv h4.h hrl
        exact this
      have h4' := Lib.hid h4.drop.h
      have q5 : decide ((du : Int) ≤ (dt'.length : Int)) = true := by simp; omega
      have q6 : decide ((dt'.length : Int) ≤ (AL.length : Int)) = true := by simp; omega
      have q7 : (bstr (AL.take du)).size = du := by rw [bstr_size, List.length_take]; omega
      have q8 : (bstr AL).size = AL.length := bstr_size AL
      have q9 : (du : Int) ≤ (c4 : Int) := by
        obtain ⟨A5, c5, e5, e6⟩ := h5.cap
        simp only [Value.slice.injEq] at e5
        obtain ⟨_, _, rfl⟩ := e5
        omega
      clear h4 h5 hrl
      by_cases hl0 : ls.length = 0
      · rw [if_pos hl0]
        have g8 : ((ls.length : Int) == 0) = true := by simp; exact List.eq_nil_of_length_eq_zero hl0
        clear hl0
        go_wp2_with (go_at_call 10; refine (awake_true h4'.out).mono ?_; rintro e w9 ⟨rfl, h9⟩)
        go_ret
        exact ⟨rfl, h9⟩
      · rw [if_neg hl0]
        have g8 : ((ls.length : Int) == 0) = false := by simp; intro h; rw [h] at hl0; simp at hl0
        clear hl0
        go_wp2_with fail
        refine (awake_true h4'.out).mono ?_
        rintro e w9 ⟨rfl, h9⟩
        go_wp2_with fail
        go_ret
        exact ⟨rfl, h9⟩

set_option maxRecDepth 100000 in
set_option maxHeartbeats 1600000 in
theorem synced_any (nm : Bs) (A : Option Addr) (cl : Nat) (ls : List VB) (Ap : Option Addr) (cp : Nat) (ps : List Int) (at_ : Int) (h : H W w L) (ha : SArg L A cl ls Ap cp ps) :
    Calls Try.prog 3 #[.string (bstr nm), .slice A ls.length cl, .int .i64 at_, .slice Ap ps.length cp] w (PTrue W L) := by
  have h' := Lib.hid h
  by_cases hn0 : nm = []
  · subst hn0
    have ks : (bstr []).toList.isEmpty = true := by rw [bstr_toList]; rfl
    clear ha
    go_enter Try.func3, Try.ntmps3
    go_wp2_with (go_at_call 10; refine (awake_true h'.out).mono ?_; rintro e w9 ⟨rfl, h9⟩)
    go_ret
    exact ⟨rfl, h9⟩
  have ks : (bstr nm).toList.isEmpty = false := by rw [bstr_toList]; simpa using hn0
  have kz := bstr_size nm
  by_cases c1 : 100 < nm.length
  · have g1 : decide ((100 : Int) < (nm.length : Int)) = true := by simp; omega
    clear ha
    go_enter Try.func3, Try.ntmps3
    go_wp2_with (go_at_call 10; refine (awake_true h'.out).mono ?_; rintro e w9 ⟨rfl, h9⟩)
    go_ret
    exact ⟨rfl, h9⟩
  have g1 : decide ((100 : Int) < (nm.length : Int)) = false := by simp; omega
  by_cases c2 : 30 < ls.length
  · have g2 : decide ((30 : Int) < (ls.length : Int)) = true := by simp; omega
    clear ha
    go_enter Try.func3, Try.ntmps3
    go_wp2_with (go_at_call 10; refine (awake_true h'.out).mono ?_; rintro e w9 ⟨rfl, h9⟩)
    go_ret
    exact ⟨rfl, h9⟩
  have g2 : decide ((30 : Int) < (ls.length : Int)) = false := by simp; omega
  by_cases c3 : at_ < 0
  · have g3 : decide (at_ < 0) = true := by simpa using c3
    clear ha
    go_enter Try.func3, Try.ntmps3
    go_wp2_with (go_at_call 10; refine (awake_true h'.out).mono ?_; rintro e w9 ⟨rfl, h9⟩)
    go_ret
    exact ⟨rfl, h9⟩
  have g3 : decide (at_ < 0) = false := by simpa using c3
  by_cases c4 : (ls.length : Int) < at_
  · have g4 : decide ((ls.length : Int) < at_) = true := by simpa using c4
    clear ha
    go_enter Try.func3, Try.ntmps3
    go_wp2_with (go_at_call 10; refine (awake_true h'.out).mono ?_; rintro e w9 ⟨rfl, h9⟩)
    go_ret
    exact ⟨rfl, h9⟩
  have g4 : decide ((ls.length : Int) < at_) = false := by simpa using c4
  by_cases c5 : 100 < ps.length
  · have g5 : decide ((100 : Int) < (ps.length : Int)) = true := by simp; omega
    clear ha
    go_enter Try.func3, Try.ntmps3
    go_wp2_with (go_at_call 10; refine (awake_true h'.out).mono ?_; rintro e w9 ⟨rfl, h9⟩)
    go_ret
    exact ⟨rfl, h9⟩
  exact synced_walk nm A cl ls Ap cp ps at_ h ha hn0 (by omega) (by omega) (by omega) (by omega) (by omega)
end Go.Proofs.Ytfhoblchgeijkaa
