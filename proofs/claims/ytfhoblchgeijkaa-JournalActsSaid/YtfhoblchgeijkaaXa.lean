import Derived.Test.YtfhoblchgeijkaaV
namespace Go.Proofs.Ytfhoblchgeijkaa
open Go.RowKit Go.Maps
variable {W w : World} {L T : List Seg} {v : Value} {l n bs : Bs} {b M : Nat} {d : AD} {SM X S : Seg} {rs rs1 rs2 : List FR} {r : FR} {fs : List (Bs × Nat)}

theorem Disk.setCell {g : Nat} {c : Array Value} {E : TypeId} {fr : Nat × Nat} (h : Disk W w ([(g, .cells c E fr)] :: L) b d) (i : Nat) (x : Value) : Disk W (w.setCell ⟨g, i, none⟩ x) ([(g, .cells (c.setIfInBounds i x) E fr)] :: L) b d := by
  obtain ⟨M, SM, rs, h1, h2⟩ := h
  exact ⟨M, SM, rs, ((h1.pick 3 rfl).setCell i x).tail3, h2⟩

theorem OwnS.byte0 {A : Option Addr} {cap : Nat} (h : OB (.slice A l.length cap) l S) (hl : 0 < l.length) :
    ∃ g cur, ∃ y : UInt8, A = some ⟨g, 0, none⟩ ∧ S = [(g, .cells cur 5 (0, 0))] ∧ cur[0]? = some (.int .u8 (y.toNat : Int)) := by
  rcases h.2 with ⟨_, h0, _⟩ | ⟨g, cap', cur, h1, h2, h3, h4, h5, h6⟩
  · omega
  · simp only [Value.slice.injEq] at h1
    obtain ⟨rfl, _, rfl⟩ := h1
    refine ⟨g, cur, l.getD 0 0, rfl, h2, ?_⟩
    have : (u8s l)[0]? = some (.int .u8 ((l.getD 0 0).toNat : Int)) := by simp [u8s, List.getD, hl]
    rw [← h6, List.getElem?_take, if_pos (by omega)] at this
    simpa using this

theorem copies_ad : AD.new.app [97] l = ⟨[⟨[97], l, 0⟩], false, false, 0⟩ := rfl

set_option maxRecDepth 100000 in
set_option maxHeartbeats 3200000 in
theorem copies_walk (a : Addr) (cap : Nat) (h : H W w L) (hr : RL L (.slice (some a) l.length cap) l) (hl : l.length ≤ 2000) (hl0 : 0 < l.length) : Calls Try.prog 4 #[.slice (some a) l.length cap] w (PTrue W L) := by
  have h' := Lib.hid h
  have hr' := Lib.hid hr
  clear h hr
  have g1 : decide ((2000 : Int) < (l.length : Int)) = false := by simp; omega
  have g2 : ((l.length : Int) == 0) = false := by simp; intro h; rw [h] at hl0; simp at hl0
  go_enter Try.func4, Try.ntmps4
  go_wp2_with (first
    | (go_at_call 11; refine (new_any h'.out).mono ?_; rintro e w1 ⟨b, rfl, M, SM, rs, h1, h1k⟩; have h1' := Lib.hid h1; have h1k' := Lib.hid h1k; clear h1 h1k)
    | (at_builtin; refine wpl_append rfl (.tmp 22) (.tmp 23) rfl et27 rfl rfl (h1'.out.alloc _) (h1'.out.lit #[] 0 (by simp [maxLen]) rfl) ((((hr'.out.2.cons (frs rs)).cons SM).cons (dhdr b M AD.new)).cons _) (u8s_one l) (by omega) (by omega) ?_; intro A1 c1 w2 S1 h3 h4; have h3' := Lib.hid h3; have h4' := Lib.hid h4; clear h3 h4))
  have h4 := h4'.out
  simp only [Nat.zero_add, List.nil_append] at h4
  obtain ⟨g, cur, y0, rfl, rfl, hc0⟩ := OwnS.byte0 h4 hl0
  have hd := Lib.hid (show Disk W w2 ([(g, .cells cur 5 (0, 0))] :: L) b AD.new from ⟨M, SM, rs, h3'.out.tail3, h1k'.out⟩)
  have hx := Lib.hid (show RL ([(g, .cells cur 5 (0, 0))] :: L) (.slice (some ⟨g, 0, none⟩) l.length c1) l from OwnS.rl h4 (by omega) L)
  have hc0' := Lib.hid hc0
  clear h4 h4' h3' h1' h1k' hc0
  refine (app_disk (n := [97]) hd.out hx.out (by decide) (by omega) (by intro f hf; cases hf) (by decide)).mono ?_
  rw [copies_ad, show AD.new.appE [97] = 0 from rfl]
  rintro e w3 ⟨rfl, h5⟩
  have k0 : w3.cell? ⟨g, 0, none⟩ = some (.int .u8 (y0.toNat : Int)) := h5.h.cellAt 0 0 0 rfl rfl hc0'.out
  have k1 : w3.frozen? ⟨g, 0, none⟩ = false := h5.h.freeAt 0 0 0 rfl rfl
  have h5' := Lib.hid (h5.setCell 0 (.int .u8 (bits .xor .u8 (y0.toNat : Int) 255)))
  clear h5
  go_wp2_with fail
  refine (read_disk (n := [97]) h5'.out (by decide)).mono ?_
  rintro e w4 ⟨A2, c2, S2, rfl, h6, h7⟩
  rw [show (AD.mk [⟨[97], l, 0⟩] false false 0).rd [97] = l from rfl] at h7 ⊢
  rw [show (AD.mk [⟨[97], l, 0⟩] false false 0).existE [97] = 0 from rfl]
  obtain ⟨g2, cur2, y2, rfl, rfl, hc2⟩ := OwnS.byte0 h7 hl0
  have hcv : (convert 27 9 (.slice (some ⟨g2, 0, none⟩) l.length c2)).run Try.prog w4 = .ok (.string (bstr l)) w4 := RL.conv h6.h (h7.rl (by omega) _)
  have hcv2 : (convert 27 9 (.slice (some a) l.length cap)).run Try.prog w4 = .ok (.string (bstr l)) w4 := RL.conv h6.drop.drop.h hr'.out
  have k2 : w4.cell? ⟨g2, 0, none⟩ = some (.int .u8 (y2.toNat : Int)) := h6.h.cellAt 0 0 0 rfl rfl hc2
  have k3 : w4.frozen? ⟨g2, 0, none⟩ = false := h6.h.freeAt 0 0 0 rfl rfl
  have h6' := Lib.hid (h6.setCell 0 (.int .u8 (bits .xor .u8 (y2.toNat : Int) 255)))
  clear h6 h7 hc2 h5'
  go_wp2_with fail
  refine (read_disk (n := [97]) h6'.out (by decide)).mono ?_
  rintro e w5 ⟨A3, c3, S3, rfl, h8, h9⟩
  rw [show (AD.mk [⟨[97], l, 0⟩] false false 0).rd [97] = l from rfl] at h9 ⊢
  rw [show (AD.mk [⟨[97], l, 0⟩] false false 0).existE [97] = 0 from rfl]
  have hcv3 : (convert 27 9 (.slice A3 l.length c3)).run Try.prog w5 = .ok (.string (bstr l)) w5 := RL.conv h8.h (h9.rl (by omega) _)
  have hcv4 : (convert 27 9 (.slice (some a) l.length cap)).run Try.prog w5 = .ok (.string (bstr l)) w5 := RL.conv h8.drop.drop.drop.h hr'.out
  have h8' := Lib.hid h8.drop.drop.drop.h
  clear h8 h9 h6' hcv hcv2
  go_wp2_with fail
  refine (awake_true h8'.out).mono ?_
  rintro e w6 ⟨rfl, h10⟩
  go_wp2_with fail
  go_ret
  exact ⟨rfl, h10⟩

set_option maxHeartbeats 800000 in
theorem copies_any (A : Option Addr) (cap : Nat) (h : H W w L) (hr : RS L 1 (.slice A l.length cap) l.length (u8s l)) : Calls Try.prog 4 #[.slice A l.length cap] w (PTrue W L) := by
  have h' := Lib.hid h
  have hr' := Lib.hid hr
  by_cases c1 : 2000 < l.length
  · have g1 : decide ((2000 : Int) < (l.length : Int)) = true := by simp; omega
    clear h hr
    go_enter Try.func4, Try.ntmps4
    go_wp2_with (go_at_call 10; refine (awake_true h'.out).mono ?_; rintro e w9 ⟨rfl, h9⟩)
    go_ret
    exact ⟨rfl, h9⟩
  by_cases c2 : l.length = 0
  · have g1 : decide ((2000 : Int) < (l.length : Int)) = false := by simp; omega
    have g2 : ((l.length : Int) == 0) = true := by simp; exact List.eq_nil_of_length_eq_zero c2
    clear h hr c2
    go_enter Try.func4, Try.ntmps4
    go_wp2_with (go_at_call 10; refine (awake_true h'.out).mono ?_; rintro e w9 ⟨rfl, h9⟩)
    go_ret
    exact ⟨rfl, h9⟩
  have : ∃ a, A = some a := by
    rcases hr.2 with ⟨h0, _⟩ | ⟨b, o, c, _, _, _, hx, _⟩
    · exact absurd h0 c2
    · exact ⟨_, (by simpa using hx : _ ∧ _).1⟩
  obtain ⟨a, rfl⟩ := this
  exact copies_walk a cap h ⟨by omega, hr⟩ (by omega) (by omega)
end Go.Proofs.Ytfhoblchgeijkaa
