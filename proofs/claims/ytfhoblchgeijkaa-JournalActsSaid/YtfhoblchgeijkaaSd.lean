import Derived.Test.YtfhoblchgeijkaaSc
namespace Go.Proofs.Ytfhoblchgeijkaa
open Go.RowKit Go.Maps
variable {W w : World} {L T : List Seg} {n : Bs} {b r : Nat} {d e : AD} {S : Seg}

theorem Two.ofDisk {lv : Value} {SL : Seg} {rs : List RF} (h : Disk W w (S :: rhdr r e lv :: SL :: rdatas rs :: L) b d) (h2 : ROk e lv SL rs) : Two W w (S :: L) b d r e := by
  obtain ⟨M, SM, fr, h1, h3⟩ := h
  exact ⟨lv, SL, rs, ⟨M, SM, fr, h1.re (by intro c hc h0; simp only [List.flatten_cons, hc]; omega), h3⟩, h2⟩
theorem Two.ofRDisk {M : Nat} {SM : Seg} {fr : List FR} (h : RDisk W w (S :: dhdr b M d :: SM :: frs fr :: L) r e) (h2 : DOk d M SM fr) : Two W w (S :: L) b d r e := by
  obtain ⟨lv, SL, rs, h1, h3⟩ := h
  exact ⟨lv, SL, rs, ⟨M, SM, fr, h1.re (by intro c hc h0; simp only [List.flatten_cons, hc]; omega), h2⟩, h3⟩
theorem Two.drop (h : Two W w (S :: L) b d r e) : Two W w L b d r e := by
  obtain ⟨lv, SL, rs, ⟨M, SM, fr, h1, h3⟩, h2⟩ := h
  refine ⟨lv, SL, rs, ⟨M, SM, fr, h1.sub ?_, h3⟩, h2⟩
  simp
theorem Two.drewN (h : Two W w L b d r e) (k : Nat) : Two W (w.drewN k) L b d r e := by
  obtain ⟨lv, SL, rs, ⟨M, SM, fr, h1, h3⟩, h2⟩ := h
  exact ⟨lv, SL, rs, ⟨M, SM, fr, h1.drewN k, h3⟩, h2⟩
theorem Two.disk (h : Two W w L b d r e) : ∃ T, Disk W w T b d := by
  obtain ⟨lv, SL, rs, h1, _⟩ := h
  exact ⟨_, h1⟩
theorem Two.roff (h : Two W w L b d r e) : w.cell? ⟨r, 3, none⟩ = some (.bool e.off) := by
  obtain ⟨_, _, _, ⟨lv, SL, rs, h1, _⟩, _⟩ := h.turn
  exact h1.cellAt 0 0 3 rfl rfl rfl

def PTNames (W : World) (L : List Seg) (b : Nat) (d : AD) (r : Nat) (e : AD) (fs : List AF) (x : Ending) (w' : World) : Prop :=
  ∃ A cap S, x = .returned (.slice A fs.length cap) ∧ Two W w' (S :: L) b d r e ∧ OwnS 9 1 (.slice A fs.length cap) fs.length (namesV fs) S
def PTRead (W : World) (L : List Seg) (b : Nat) (d : AD) (r : Nat) (e : AD) (q : AD) (n : Bs) (x : Ending) (w' : World) : Prop :=
  ∃ A cap S, x = .returned (.tuple #[.slice A (q.rd n).length cap, .int .i64 (q.existE n)]) ∧ Two W w' (S :: L) b d r e ∧ OB (.slice A (q.rd n).length cap) (q.rd n) S

theorem two_files (h : Two W w L b d r e) : Calls Try.prog 39 #[.pointer (some ⟨b, 0, none⟩)] w (PTNames W L b d r e d.fs) := by
  obtain ⟨lv, SL, rs, h1, h2⟩ := h
  exact (files_disk h1).mono fun x w' ⟨A, cap, S, h3, h4, h5⟩ => ⟨A, cap, S, h3, Two.ofDisk h4 h2, h5⟩
theorem two_rfiles (h : Two W w L b d r e) : Calls Try.prog 55 #[.pointer (some ⟨r, 0, none⟩)] w (PTNames W L b d r e e.fs) := by
  obtain ⟨M, SM, fr, h1, h2⟩ := h.turn
  exact (rfiles_disk h1).mono fun x w' ⟨A, cap, S, h3, h4, h5⟩ => ⟨A, cap, S, h3, Two.ofRDisk h4 h2, h5⟩
theorem two_read (h : Two W w L b d r e) (hn : n.length ≤ maxLen) : Calls Try.prog 15 #[.pointer (some ⟨b, 0, none⟩), .string (bstr n)] w (PTRead W L b d r e d n) := by
  obtain ⟨lv, SL, rs, h1, h2⟩ := h
  exact (read_disk h1 hn).mono fun x w' ⟨A, cap, S, h3, h4, h5⟩ => ⟨A, cap, S, h3, Two.ofDisk h4 h2, h5⟩
theorem two_rread (h : Two W w L b d r e) : Calls Try.prog 22 #[.pointer (some ⟨r, 0, none⟩), .string (bstr n)] w (PTRead W L b d r e e n) := by
  obtain ⟨M, SM, fr, h1, h2⟩ := h.turn
  exact (rread_disk h1).mono fun x w' ⟨A, cap, S, h3, h4, h5⟩ => ⟨A, cap, S, h3, Two.ofRDisk h4 h2, h5⟩

theorem rd_len {k : Nat} (h : FOk k d.fs) (n : Bs) : (d.rd n).length ≤ 3000 * k := by
  unfold AD.rd
  split
  · unfold AD.find
    cases hf : d.fs.find? fun f => f.name == n with
    | none => simp
    | some f => simpa using (h.2 f (List.mem_of_find?_eq_some hf)).1
  · simp

def PSame (W : World) (L : List Seg) (b : Nat) (d : AD) (r : Nat) (x : Ending) (w' : World) : Prop := x = .returned (.bool true) ∧ Two W w' L b d r d

set_option maxRecDepth 100000 in
set_option maxHeartbeats 3200000 in
theorem same_any (h : Two W w L b d r d) (hf : FOk 200 d.fs) : Calls Try.prog 23 #[.pointer (some ⟨b, 0, none⟩), .pointer (some ⟨r, 0, none⟩)] w (PSame W L b d r) := by
  have h' := Lib.hid h
  have hf' := Lib.hid hf
  obtain ⟨N, hN⟩ : ∃ N, d.fs.length = N := ⟨_, rfl⟩
  have hN' := Lib.hid hN
  have hNb : N ≤ 200 := by rw [← hN]; exact hf.1
  clear h hf hN
  go_enter Try.func23, Try.ntmps23
  go_wp2_with fail
  refine (two_files h'.out).mono ?_
  rintro e w1 ⟨A5, c5, S5, rfl, h5, o5⟩
  rw [hN'.out] at o5 ⊢
  have h5' := Lib.hid h5
  have o5' := Lib.hid o5
  clear h5 o5
  go_wp2_with fail
  refine (two_rfiles h5'.out).mono ?_
  rintro e w2 ⟨A6, c6, S6, rfl, h6, o6⟩
  rw [hN'.out] at o6 ⊢
  have h6' := Lib.hid h6
  have o6' := Lib.hid o6
  clear h6 o6
  go_wp2_with fail
  have hr3 := h6'.out.roff
  have hoff : ∀ k, Calls Try.prog 18 #[.pointer (some ⟨b, 0, none⟩)] (w2.drewN k) (PBool d.off fun w' => w2.drewN k = w') := fun k => by
    obtain ⟨T, hT⟩ := (h6'.out.drewN k).disk
    exact off_disk hT
  have hoff' := Lib.hid hoff
  clear hoff
  go_quiet ((go_at_call 18; exact Calls.quiet_of_same ((hoff'.out _).mono fun _ _ ⟨q1, q2⟩ => ⟨q1, q2.symm⟩)))
  go_wp2_with fail
  have h7 := Lib.hid (h6'.out.drewN nq)
  clear hr3
  go_loopw [7] (fun i wr => ∃ k : Nat, k ≤ N ∧ i = .int .i64 k ∧ Two W wr (S6 :: S5 :: L) b d r d) (fun i _ => N - (intOf i).toNat)
  case atStart => exact ⟨0, Nat.zero_le _, rfl, h7.out⟩
  case round =>
    obtain ⟨k, hk, rfl, hw⟩ := hrel
    have hw' := Lib.hid hw
    clear hw
    by_cases hlt : k < N
    · have hki : (k : Int) < (N : Int) := by omega
      obtain ⟨g5, q5, rfl, hc5⟩ := (o5'.out.rs L).get (by omega)
      obtain ⟨g6, q6, rfl, hc6⟩ := (o6'.out.rs (S5 :: L)).get (by omega)
      have hkd : k < d.fs.length := by rw [hN'.out]; exact hlt
      obtain ⟨f, hfk⟩ : ∃ f, d.fs[k] = f := ⟨_, rfl⟩
      have hfm : f ∈ d.fs := by rw [← hfk]; exact List.getElem_mem hkd
      have hnv : (namesV d.fs)[k]? = some (.string (bstr f.name)) := by simp [namesV, hkd, hfk]
      have hfb := (hf'.out.2 f hfm).2.1
      have k5 := Lib.hid (fun (w : World) (h : H W w (S5 :: L)) => hc5 W w h k _ hnv)
      have k6 := Lib.hid (fun (w : World) (h : H W w (S6 :: S5 :: L)) => hc6 W w h k _ hnv)
      have c5 := k5.out wr hw'.out.h.drop
      clear hc5 hc6 hfk hnv hkd hfm
      go_wp2_with fail
      refine (two_read (n := f.name) hw'.out (by unfold maxLen; omega)).mono ?_
      rintro e w3 ⟨A8, c8, S8, rfl, h8, o8⟩
      have h8' := Lib.hid h8
      have o8' := Lib.hid o8
      clear h8 o8
      have c6 := k6.out w3 h8'.out.h.drop
      go_wp2_with fail
      refine (two_rread (n := f.name) h8'.out).mono ?_
      rintro e w4 ⟨A9, c9, S9, rfl, h9, o9⟩
      have hrd := rd_len hf'.out f.name
      have hcv8 : (convert 27 9 (.slice A8 (d.rd f.name).length c8)).run Try.prog w4 = .ok (.string (bstr (d.rd f.name))) w4 := RL.conv h9.h (((o8'.out.rl (by omega) (S6 :: S5 :: L)).cons S9))
      have hcv9 : (convert 27 9 (.slice A9 (d.rd f.name).length c9)).run Try.prog w4 = .ok (.string (bstr (d.rd f.name))) w4 := RL.conv h9.h (o9.rl (by omega) _)
      have hcw8 : ∀ i, (convert 27 9 (.slice A8 (d.rd f.name).length c8)).run Try.prog (w4.drewN i) = .ok (.string (bstr (d.rd f.name))) (w4.drewN i) := fun i => RL.conv (h9.h.drewN i) (((o8'.out.rl (by omega) (S6 :: S5 :: L)).cons S9))
      have hcw9 : ∀ i, (convert 27 9 (.slice A9 (d.rd f.name).length c9)).run Try.prog (w4.drewN i) = .ok (.string (bstr (d.rd f.name))) (w4.drewN i) := fun i => RL.conv (h9.h.drewN i) (o9.rl (by omega) _)
      have c5b := k5.out w4 h9.h.drop.drop.drop
      have c6b := k6.out w4 h9.h.drop.drop
      have h9' := Lib.hid h9
      clear h9 o9 hrd
      go_wp2_with fail
      go_quiet (fail)
      go_wp2_with fail
      exact ⟨⟨k + 1, by omega, by go_num, h9'.out.drop.drop.drewN nq⟩, by simp [intOf]; omega⟩
    · have hkn : k = N := by omega
      subst hkn
      go_wp2_with fail
      go_ret
      exact ⟨rfl, hw'.out.drop.drop⟩
end Go.Proofs.Ytfhoblchgeijkaa
