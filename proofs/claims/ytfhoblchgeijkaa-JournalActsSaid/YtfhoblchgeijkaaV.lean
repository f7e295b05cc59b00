import Derived.Test.YtfhoblchgeijkaaU
import Derived.Lib.SmallJoins
namespace Go.Proofs.Ytfhoblchgeijkaa
open Go.RowKit Go.Maps
variable {W w : World} {L T : List Seg} {v : Value} {l n bs : Bs} {b M : Nat} {d : AD} {SM X S : Seg} {rs rs1 rs2 : List FR} {r : FR} {fs : List (Bs × Nat)}

theorem lit_rl {g : Nat} (l : Bs) (hl : l.length ≤ 1099511627776) (fr : Nat × Nat) (L : List Seg) : RL ([(g, .cells (u8s l).toArray 5 fr)] :: L) (.slice (some ⟨g, 0, none⟩) l.length l.length) l :=
  ⟨by omega, by simp [u8s], .inr ⟨g, 0, l.length, (u8s l).toArray, 5, fr, rfl, by simp, fun j u hu => by simpa using hu⟩⟩

theorem lit_ri {g : Nat} (ps : List Int) (hl : ps.length ≤ 1099511627776) (hp : ∀ p ∈ ps, InI p) (L : List Seg) : RI ([(g, .cells (i64s ps).toArray 3 (0, 0))] :: L) (.slice (some ⟨g, 0, none⟩) ps.length ps.length) ps := by
  refine ⟨⟨by simp [i64s], .inr ⟨g, 0, ps.length, (i64s ps).toArray, 3, (0, 0), rfl, by simp, fun j u hu => by simpa using hu⟩⟩, ⟨_, _, rfl, Nat.le_refl _⟩, hp, hl⟩

/-- An append of a literal. -/
theorem app_lit (h : Disk W w L b d) (fr : Nat × Nat) (n bs : Bs) (hn : n.length ≤ 1099511627776) (hbs : bs.length ≤ 1099511627776) (hroom : d.room bs.length) (hlt : d.fs.length < 1099511627776) :
    Calls Try.prog 13 #[.pointer (some ⟨b, 0, none⟩), .string (bstr n), .slice (some ⟨w.heap.size, 0, none⟩) bs.length bs.length] (w.alloc (.cells (u8s bs).toArray 5 fr)) (PErr (d.appE n) fun w' => Disk W w' L b (d.app n bs)) := by
  refine (app_disk (h.alloc (.cells (u8s bs).toArray 5 fr)) (lit_rl bs hbs fr L) hn hbs hroom hlt).mono ?_
  rintro e w' ⟨rfl, h2⟩
  exact ⟨rfl, h2.drop⟩

theorem crash_lit (h : Disk W w L b d) (ps : List Int) (hl : ps.length ≤ 1099511627776) (hp : ∀ p ∈ ps, InI p) (hnl : ∀ f ∈ d.fs, f.name.length ≤ maxLen) :
    Calls Try.prog 14 #[.pointer (some ⟨b, 0, none⟩), .slice (some ⟨w.heap.size, 0, none⟩) ps.length ps.length] (w.alloc (.cells (i64s ps).toArray 3)) (PVoid fun w' => Disk W w' L b (d.crash ps)) := by
  refine (crash_disk (h.alloc (.cells (i64s ps).toArray 3)) (lit_ri ps hl hp L) hnl).mono ?_
  rintro e w' ⟨rfl, h2⟩
  exact ⟨rfl, h2.drop⟩

set_option maxHeartbeats 400000 in
theorem read_nil (n : Bs) (w : World) : Calls Try.prog 15 #[.pointer none, .string (bstr n)] w fun e w' => e = .returned (.tuple #[.slice none 0 0, .int .i64 1]) ∧ w = w' := by
  have hop := open_nil n w
  have hex : Calls Try.prog 45 #[.pointer none, .string (bstr n)] w (POpen none 1 fun w' => w = w') := by
    go_enter Try.func45, Try.ntmps45
    go_wp2_with (go_at_call 42; refine hop.mono ?_; rintro e w1 ⟨rfl, rfl⟩; unfold ptrV)
    go_ret2
    exact ⟨rfl, rfl⟩
  go_enter Try.func15, Try.ntmps15
  go_wp2_with (go_at_call 45; refine hex.mono ?_; rintro e w1 ⟨rfl, rfl⟩; unfold ptrV)
  go_ret2
  exact ⟨rfl, rfl⟩

theorem RL.conv {w : World} (h : H W w L) (hr : RL L v l) : (convert 27 9 v).run Try.prog w = .ok (.string (bstr l)) w := by
  obtain ⟨A, cap, rfl⟩ := hr.2.form
  cases A with
  | none =>
    have h0 : l.length = 0 := by
      rcases hr.2.2 with ⟨h0, _⟩ | ⟨b, o, c, _, _, _, hx, _⟩
      · exact h0
      · simp at hx
    have : l = [] := List.eq_nil_of_length_eq_zero h0
    subst this
    exact run_convert_bytes_nil w 27 5 Try.underlying27 Try.underlying5 _ _ 9 Try.underlying9
  | some a =>
    exact run_convert_bytes_back w 27 9 5 a cap l Try.underlying27 Try.underlying5 Try.underlying9 (fun j hj => hr.2.cell h rfl j _ (by simp [u8s, List.getElem?_eq_getElem hj]))

theorem OwnS.rl (h : OB v l S) (hl : l.length ≤ 140737488355328) (L : List Seg) : RL (S :: L) v l := ⟨hl, h.rs L⟩
theorem Disk.h (h : Disk W w L b d) : H W w L := by
  obtain ⟨M, SM, rs, h1, h2⟩ := h
  exact h1.drop.drop.drop

theorem conv27 (w : World) (C : Array Value) (n c : Nat) : (convert 27 27 (.slice (some ⟨w.heap.size, 0, none⟩) n c)).run Try.prog (w.alloc (.cells C 5)) = .ok (.slice (some ⟨w.heap.size, 0, none⟩) n c) (w.alloc (.cells C 5 (C.size, C.size + 1))) :=
  Lib.run_convert_bytes_const w 27 5 C n c Try.underlying27 Try.underlying5

def PTrue (W : World) (L : List Seg) (e : Ending) (w' : World) : Prop := e = .returned (.bool true) ∧ H W w' L

def af : AF := ⟨[102], [97, 98, 99], 0⟩
def ad1 : AD := ⟨[⟨[102], [97, 98, 99], 0⟩], false, false, 0⟩
def ad2 : AD := ⟨[⟨[102], [97, 98, 99], 3⟩], false, false, 0⟩
def ad3 : AD := ⟨[⟨[102], [97, 98, 99, 100, 101, 102], 3⟩], false, false, 0⟩
def ad4 : AD := ⟨[⟨[102], [97, 98, 99, 100, 101], 5⟩], false, false, 0⟩
def ad5 : AD := ⟨[⟨[102], [97, 98, 99, 100, 101], 5⟩], false, true, 0⟩
def ad6 : AD := ⟨[⟨[102], [97, 98, 99, 100, 101, 103], 5⟩], true, true, 0⟩
theorem as1 : AD.new.app [102] [97, 98, 99] = ad1 := rfl
theorem as2 : ad1.chg [102] (syncF [102]) = ad2 := rfl
theorem as3 : ad2.app [102] [100, 101, 102] = ad3 := rfl
theorem as4 : ad3.crash [2, 0] = ad4 := rfl
theorem as5 : ad4.arm 0 = ad5 := rfl
theorem as6 : ad5.app [102] [103] = ad6 := rfl

set_option maxRecDepth 100000 in
set_option maxHeartbeats 3200000 in
theorem awake_true (h : H W w L) : Calls Try.prog 10 #[] w (PTrue W L) := by
  have h' := Lib.hid h
  clear h
  have kcv := conv27
  go_enter Try.func10, Try.ntmps10
  go_wp2_with (go_at_call 11; refine (new_any h'.out).mono ?_; rintro e w1 ⟨b, rfl, h1⟩; have h1' := Lib.hid h1; clear h1)
  refine (app_lit h1'.out _ [102] [97, 98, 99] (by decide) (by decide) (by intro f hf; cases hf) (by decide)).mono ?_
  rw [as1, show AD.new.appE [102] = 0 from rfl]
  rintro e w2 ⟨rfl, h2⟩
  have h2' := Lib.hid h2
  clear h2
  go_wp2_with fail
  refine (sync_disk (n := [102]) h2'.out (by decide)).mono ?_
  rw [as2, show ad1.chgE [102] = 0 from rfl]
  rintro e w3 ⟨rfl, h3⟩
  have h3' := Lib.hid h3
  clear h3
  go_wp2_with fail
  refine (app_lit h3'.out _ [102] [100, 101, 102] (by decide) (by decide) (by intro f hf; simp [ad2] at hf; subst hf; decide) (by decide)).mono ?_
  rw [as3, show ad2.appE [102] = 0 from rfl]
  rintro e w4 ⟨rfl, h4⟩
  have h4' := Lib.hid h4
  clear h4
  go_wp2_with fail
  refine (crash_lit h4'.out [2, 0] (by decide) (by intro p hp; simp at hp; rcases hp with rfl | rfl <;> (unfold InI; omega)) (by intro f hf; simp [ad3] at hf; subst hf; decide)).mono ?_
  rw [as4]
  rintro e w5 ⟨rfl, h5⟩
  have h5' := Lib.hid h5
  clear h5
  go_wp2_with fail
  refine (read_disk (n := [102]) h5'.out (by decide)).mono ?_
  rintro e w6 ⟨A6, c6, S6, rfl, h6, g6⟩
  rw [show ad4.existE [102] = 0 from rfl, show ad4.rd [102] = [97, 98, 99, 100, 101] from rfl]
  rw [show ad4.rd [102] = [97, 98, 99, 100, 101] from rfl] at g6
  have h6' := Lib.hid h6
  have g6' := Lib.hid g6
  clear h6 g6
  go_wp2_with fail
  refine (arm_disk h6'.out 0 (by decide)).mono ?_
  rw [as5]
  rintro e w7 ⟨rfl, h7⟩
  have h7' := Lib.hid h7
  clear h7
  go_wp2_with fail
  refine (app_lit h7'.out _ [102] [103] (by decide) (by decide) (by intro f hf; simp [ad5] at hf; subst hf; decide) (by decide)).mono ?_
  rw [as6, show ad5.appE [102] = 103 from rfl]
  rintro e w8 ⟨rfl, h8⟩
  have hcv : (convert 27 9 (.slice A6 5 c6)).run Try.prog w8 = .ok (.string (bstr [97, 98, 99, 100, 101])) w8 := RL.conv h8.h (g6'.out.rl (by decide) L)
  have kse : ((bstr [97, 98, 99, 100, 101]).toList == ({ data := #[97, 98, 99, 100, 101] } : ByteArray).toList) = true := by
    rw [show ({ data := #[97, 98, 99, 100, 101] } : ByteArray) = bstr [97, 98, 99, 100, 101] from rfl, beq_self_eq_true]
  have kse2 : (bstr [97, 98, 99, 100, 101]).toList = ({ data := #[97, 98, 99, 100, 101] } : ByteArray).toList := rfl
  have h8' := Lib.hid h8
  clear h8
  go_wp2_with fail
  refine (read_nil [102] w8).mono ?_
  rintro e w9 ⟨rfl, rfl⟩
  go_wp2_with fail
  refine (off_disk h8'.out).mono ?_
  rw [show ad6.off = true from rfl]
  rintro e w10 ⟨rfl, rfl⟩
  go_wp2_with fail
  refine (off_nil w8).mono ?_
  rintro e w10 ⟨rfl, rfl⟩
  go_wp2_with fail
  refine (files_nil w8).mono ?_
  rintro e w10 ⟨rfl, rfl⟩
  go_wp2_with fail
  refine (files_disk h8'.out).mono ?_
  rintro e w11 ⟨A11, c11, S11, rfl, h11, g11⟩
  rw [show ad6.fs.length = 1 from rfl]
  have h11' := Lib.hid h11
  clear h11 g11
  go_wp2_with fail
  go_ret
  exact ⟨rfl, h11'.out.h.drop.drop⟩
end Go.Proofs.Ytfhoblchgeijkaa
