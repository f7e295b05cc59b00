import Derived.Test.YtfhoblchgeijkaaV
namespace Go.Proofs.Ytfhoblchgeijkaa
open Go.RowKit Go.Maps
variable {W w : World} {L T : List Seg} {v : Value} {l n bs : Bs} {b M : Nat} {d : AD} {SM X S : Seg} {rs rs1 rs2 : List FR} {r : FR} {fs : List (Bs × Nat)}

/-- The files of DiskPower: none, or one. -/
def onef (i : Nat) (dt : Bs) : List AF := if i = 0 then [] else [⟨[97], dt, 0⟩]

theorem one_app (i : Nat) (dt c : Bs) (off armed : Bool) (left : Nat) (hd : i = 0 → dt = []) : (AD.mk (onef i dt) off armed left).appF [97] c = onef (i + 1) (dt ++ c) := by
  unfold AD.appF AD.find onef
  by_cases h : i = 0
  · subst h; rw [hd rfl]; simp [insL]
  · simp [h, updL]

/-- An append of one byte. -/
theorem app_byte (h : Disk W w L b d) (x : Int) (c : UInt8) (hx : x = (c.toNat : Int)) (n : Bs) (hn : n.length ≤ 1099511627776) (hroom : d.room 1) (hlt : d.fs.length < 1099511627776) :
    Calls Try.prog 13 #[.pointer (some ⟨b, 0, none⟩), .string (bstr n), .slice (some ⟨w.heap.size, 0, none⟩) 1 1] (w.alloc (.cells #[.int .u8 x] 5)) (PErr (d.appE n) fun w' => Disk W w' L b (d.app n [c])) := by
  subst hx
  exact app_lit h (0, 0) n [c] hn (by simp) hroom hlt

theorem byte_of (x : Int) : ∃ c : UInt8, IntKind.u8.wrap x = (c.toNat : Int) := by
  refine ⟨UInt8.ofNat (IntKind.u8.wrap x).toNat, ?_⟩
  have : 0 ≤ IntKind.u8.wrap x ∧ IntKind.u8.wrap x < 256 := by simp [IntKind.wrap, IntKind.signed, IntKind.bits]; omega
  rw [UInt8.toNat_ofNat']
  omega

set_option maxRecDepth 100000 in
set_option maxHeartbeats 6400000 in
theorem power_walk (n m : Nat) (hn : n ≤ 50) (hm : 1 ≤ m) (hm2 : m ≤ 20) (h : H W w L) : Calls Try.prog 5 #[.int .i64 n, .int .i64 m] w (PTrue W L) := by
  have h' := Lib.hid h
  clear h
  have g1 : decide ((n : Int) < 0) = false := by simp
  have g2 : decide ((50 : Int) < (n : Int)) = false := by simp; omega
  have g3 : decide ((m : Int) < 1) = false := by simp; omega
  have g4 : decide ((20 : Int) < (m : Int)) = false := by simp; omega
  go_enter Try.func5, Try.ntmps5
  go_wp2_with (first
    | (go_at_call 11; refine (new_any h'.out).mono ?_; rintro e w1 ⟨b, rfl, h1⟩; have h1' := Lib.hid h1; clear h1)
    | (go_at_call 16; refine (arm_disk h1'.out n (by omega)).mono ?_; rintro e w2 ⟨rfl, h2⟩; have h2' := Lib.hid (show Disk W w2 L b ⟨onef 0 [], false, true, n⟩ from h2); clear h2))
  go_loopw [6] (fun i wr => ∃ k : Nat, k ≤ n ∧ i = .int .i64 k ∧ ∃ dt : Bs, dt.length = k ∧ Disk W wr L b ⟨onef k dt, false, true, n - k⟩) (fun i _ => n - (intOf i).toNat)
  case atStart => exact ⟨0, Nat.zero_le _, rfl, [], rfl, h2'.out⟩
  case round =>
    obtain ⟨k, hk, rfl, dt, hdt, hd⟩ := hrel
    have hd' := Lib.hid hd
    have hdt' := Lib.hid hdt
    clear hd hdt
    by_cases hlt : k < n
    · have hki : (k : Int) < (n : Int) := by omega
      have hb : ∀ x (c : UInt8), x = (c.toNat : Int) → Calls Try.prog 13 #[.pointer (some ⟨b, 0, none⟩), .string (bstr [97]), .slice (some ⟨wr.heap.size, 0, none⟩) 1 1] (wr.alloc (.cells #[.int .u8 x] 5)) (PErr 0 fun w' => Disk W w' L b ⟨onef (k + 1) (dt ++ [c]), false, true, n - (k + 1)⟩) := by
        intro x c hx
        refine (app_byte hd'.out x c hx [97] (by decide) (by intro f hf; simp only [onef] at hf; split at hf <;> simp at hf; subst hf; have := hdt'.out; simp only; omega) (by simp only [onef]; split <;> simp)).mono ?_
        rintro e w' ⟨rfl, h3⟩
        have hw : (AD.mk (onef k dt) false true (n - k)).appE [97] = 0 := by
          simp [AD.appE, AD.openE, AD.writes]; omega
        have ha : (AD.mk (onef k dt) false true (n - k)).app [97] [c] = ⟨onef (k + 1) (dt ++ [c]), false, true, n - (k + 1)⟩ := by
          unfold AD.app
          rw [if_pos (by simp [AD.openE]), one_app _ _ _ _ _ _ (fun h0 => by have := hdt'.out; rw [h0] at this; exact List.eq_nil_of_length_eq_zero this)]
          simp only [AD.wrote, if_true]
          rw [if_neg (by omega)]
          congr 1
        rw [ha] at h3
        exact ⟨by rw [hw], h3⟩
      have hb' := Lib.hid hb
      clear hb
      go_wp2_with fail
      refine (hb'.out (k : Int) (UInt8.ofNat k) (by rw [UInt8.toNat_ofNat']; omega)).mono ?_
      rintro e w3 ⟨rfl, h3⟩
      go_wp2_with fail
      go_roundw
      case rel => exact ⟨k + 1, by omega, by go_num, _, by simp [hdt'.out], h3⟩
      case measure => simp [intOf]; omega
    · have hkn : k = n := by omega
      subst hkn
      go_wp2_with fail
      have q0 := Lib.hid (show ∃ d0, Disk W wr L b d0 ∧ d0.appE [97] = 103 ∧ (∃ du, d0.app [97] [1] = ⟨[⟨[97], du, 0⟩], true, true, 0⟩ ∧ du.length ≤ 100) ∧ d0.room 1 ∧ d0.fs.length ≤ 1 from
        ⟨_, hd'.out, by simp [AD.appE, AD.openE, AD.writes], ⟨dt ++ [1], by
          unfold AD.app
          rw [if_pos (by simp [AD.openE]), one_app _ _ _ _ _ _ (fun h0 => by have := hdt'.out; rw [h0] at this; exact List.eq_nil_of_length_eq_zero this)]
          simp [AD.wrote, onef], by have := hdt'.out; simp; omega⟩, by intro f hf; simp only [onef] at hf; split at hf <;> simp at hf; subst hf; have := hdt'.out; simp only; omega, by simp only [onef]; split <;> simp⟩)
      go_loopw [7] (fun j wq => ∃ q : Nat, q ≤ m ∧ j = .int .i64 q ∧ ∃ d0, Disk W wq L b d0 ∧ d0.appE [97] = 103 ∧ (∃ du, d0.app [97] [1] = ⟨[⟨[97], du, 0⟩], true, true, 0⟩ ∧ du.length ≤ 100 ∧ (0 < q → d0 = ⟨[⟨[97], du, 0⟩], true, true, 0⟩)) ∧ d0.room 1 ∧ d0.fs.length ≤ 1) (fun j _ => m - (intOf j).toNat)
      case atStart =>
        obtain ⟨d0, e1, e2, ⟨du, e3, e4⟩, e5, e6⟩ := q0.out
        exact ⟨0, Nat.zero_le _, rfl, d0, e1, e2, ⟨du, e3, e4, fun h => by omega⟩, e5, e6⟩
      case round =>
        obtain ⟨q, hq, rfl, d0, e1, e2, ⟨du, e3, e4, e7⟩, e5, e6⟩ := hrel
        have he1 := Lib.hid e1
        have he2 := Lib.hid e2
        have he3 := Lib.hid e3
        have he7 := Lib.hid e7
        have he5 := Lib.hid e5
        clear e1 e2 e3 e7 e5 q0
        by_cases hlt2 : q < m
        · have hqi : (q : Int) < (m : Int) := by omega
          go_wp2_with fail
          refine (app_byte he1.out 1 1 rfl [97] (by decide) he5.out (by omega)).mono ?_
          rw [he2.out, he3.out]
          rintro e w3 ⟨rfl, h3⟩
          have h3' := Lib.hid h3
          clear h3
          go_wp2_with fail
          refine (sync_disk (n := [97]) h3'.out (by decide)).mono ?_
          rw [show (AD.mk [⟨[97], du, 0⟩] true true 0).chgE [97] = 103 from rfl, show (AD.mk [⟨[97], du, 0⟩] true true 0).chg [97] (syncF [97]) = ⟨[⟨[97], du, 0⟩], true, true, 0⟩ from rfl]
          rintro e w4 ⟨rfl, h4⟩
          have h4' := Lib.hid h4
          clear h4
          go_wp2_with fail
          refine (rem_disk (n := [97]) h4'.out (by decide)).mono ?_
          rw [show (AD.mk [⟨[97], du, 0⟩] true true 0).chgE [97] = 103 from rfl, show (AD.mk [⟨[97], du, 0⟩] true true 0).chg [97] (remF [97]) = ⟨[⟨[97], du, 0⟩], true, true, 0⟩ from rfl]
          rintro e w5 ⟨rfl, h5⟩
          have h5' := Lib.hid h5
          clear h5
          go_wp2_with fail
          refine (off_disk h5'.out).mono ?_
          rintro e w6 ⟨rfl, rfl⟩
          go_wp2_with fail
          refine (read_disk (n := [97]) h5'.out (by decide)).mono ?_
          rintro e w6 ⟨A6, c6, S6, rfl, h6, g6⟩
          rw [show (AD.mk [⟨[97], du, 0⟩] true true 0).existE [97] = 103 from rfl]
          have h6' := Lib.hid h6.drop
          clear h6 g6
          go_wp2_with fail
          go_roundw
          case rel => exact ⟨q + 1, by omega, by go_num, _, h6'.out, rfl, ⟨du, rfl, e4, fun _ => rfl⟩, by intro f hf; simp at hf; subst hf; simp only; omega, by simp⟩
          case measure => simp [intOf]; omega
        · have hqm : q = m := by omega
          subst hqm
          have h1 := he1.out
          rw [he7.out (by omega)] at h1
          have h1c := Lib.hid h1
          clear h1
          go_wp2_with fail
          refine (crash_disk h1c.out (RI.nil L) (by intro f hf; simp at hf; subst hf; show 1 ≤ maxLen; decide)).mono ?_
          rintro e w3 ⟨rfl, h3⟩
          have hc : (AD.mk [⟨[97], du, 0⟩] true true 0).crash [] = ⟨[⟨[97], [], 0⟩], false, false, 0⟩ := by
            cases du with
            | nil => rfl
            | cons x xs => simp [AD.crash, crashL, crash1, belowV, dmgL]
          rw [hc] at h3
          have h3' := Lib.hid h3
          clear h3 hc
          go_wp2_with fail
          refine (off_disk h3'.out).mono ?_
          rintro e w6 ⟨rfl, rfl⟩
          go_wp2_with fail
          refine (app_byte h3'.out 2 2 rfl [97] (by decide) (by intro f hf; simp at hf; subst hf; decide) (by simp)).mono ?_
          rw [show (AD.mk [⟨[97], [], 0⟩] false false 0).appE [97] = 0 from rfl, show (AD.mk [⟨[97], [], 0⟩] false false 0).app [97] [2] = ⟨[⟨[97], [2], 0⟩], false, false, 0⟩ from rfl]
          rintro e w7 ⟨rfl, h7⟩
          have h7' := Lib.hid h7
          clear h7
          go_wp2_with fail
          refine (sync_disk (n := [97]) h7'.out (by decide)).mono ?_
          rw [show (AD.mk [⟨[97], [2], 0⟩] false false 0).chgE [97] = 0 from rfl]
          rintro e w8 ⟨rfl, h8⟩
          have h8' := Lib.hid h8.h
          clear h8
          go_wp2_with fail
          refine (awake_true h8'.out).mono ?_
          rintro e w9 ⟨rfl, h9⟩
          go_wp2_with fail
          go_ret
          exact ⟨rfl, h9⟩

set_option maxHeartbeats 800000 in
theorem power_any (a0 a1 : Int) (h : H W w L) : Calls Try.prog 5 #[.int .i64 a0, .int .i64 a1] w (PTrue W L) := by
  have h' := Lib.hid h
  by_cases c1 : a0 < 0
  · have g1 : decide (a0 < 0) = true := by simpa using c1
    clear h
    go_enter Try.func5, Try.ntmps5
    go_wp2_with (go_at_call 10; refine (awake_true h'.out).mono ?_; rintro e w9 ⟨rfl, h9⟩)
    go_ret
    exact ⟨rfl, h9⟩
  have g1 : decide (a0 < 0) = false := by simpa using c1
  by_cases c2 : 50 < a0
  · have g2 : decide (50 < a0) = true := by simpa using c2
    clear h
    go_enter Try.func5, Try.ntmps5
    go_wp2_with (go_at_call 10; refine (awake_true h'.out).mono ?_; rintro e w9 ⟨rfl, h9⟩)
    go_ret
    exact ⟨rfl, h9⟩
  have g2 : decide (50 < a0) = false := by simpa using c2
  by_cases c3 : a1 < 1
  · have g3 : decide (a1 < 1) = true := by simpa using c3
    clear h
    go_enter Try.func5, Try.ntmps5
    go_wp2_with (go_at_call 10; refine (awake_true h'.out).mono ?_; rintro e w9 ⟨rfl, h9⟩)
    go_ret
    exact ⟨rfl, h9⟩
  have g3 : decide (a1 < 1) = false := by simpa using c3
  by_cases c4 : 20 < a1
  · have g4 : decide (20 < a1) = true := by simpa using c4
    clear h
    go_enter Try.func5, Try.ntmps5
    go_wp2_with (go_at_call 10; refine (awake_true h'.out).mono ?_; rintro e w9 ⟨rfl, h9⟩)
    go_ret
    exact ⟨rfl, h9⟩
  obtain ⟨n, rfl⟩ := Int.eq_ofNat_of_zero_le (show 0 ≤ a0 by omega)
  obtain ⟨m, rfl⟩ := Int.eq_ofNat_of_zero_le (show 0 ≤ a1 by omega)
  exact power_walk n m (by omega) (by omega) (by omega) h
end Go.Proofs.Ytfhoblchgeijkaa
