import Derived.Test.YtfhoblchgeijkaaRb
namespace Go.Proofs.Ytfhoblchgeijkaa
open Go.RowKit Go.Maps
variable {W w : World} {L T : List Seg} {v : Value} {l n bs : Bs} {b : Nat} {d : AD} {S : Seg}

theorem i9 : (Try.prog.info? 9).map (fun i => (i.zero, i.size, i.bytes)) = some (some (.string ⟨#[]⟩), 1, 16) := by kernel_rfl
theorem et69 : ET Try.prog 69 9 1 16 := by
  obtain ⟨i, hi, h1, h2, h3⟩ := info_parts i9
  exact ⟨i, _, Try.underlying69, hi, h1, h2, h3, rfl, by decide⟩
theorem i89 : (Try.prog.info? 89).map (fun i => (i.zero, i.size, i.bytes)) = some (some (.agg #[.string ⟨#[]⟩, .slice none 0 0, .int .i64 0]), 3, 48) := by kernel_rfl
theorem et41 : ET Try.prog 41 89 3 48 := by
  obtain ⟨i, hi, h1, h2, h3⟩ := info_parts i89
  exact ⟨i, _, Try.underlying41, hi, h1, h2, h3, rfl, by decide⟩

def namesV (fs : List AF) : List Value := fs.map fun f => .string (bstr f.name)
def PRNames (W : World) (L : List Seg) (b : Nat) (d : AD) (e : Ending) (w' : World) : Prop :=
  ∃ A cap S, e = .returned (.slice A d.fs.length cap) ∧ RDisk W w' (S :: L) b d ∧ OwnS 9 1 (.slice A d.fs.length cap) d.fs.length (namesV d.fs) S

set_option maxHeartbeats 1600000 in
theorem rfiles_disk (h : RDisk W w L b d) : Calls Try.prog 55 #[.pointer (some ⟨b, 0, none⟩)] w (PRNames W L b d) := by
  obtain ⟨lv, SL, rs, h, hk⟩ := h
  obtain ⟨A, cap, hlv⟩ := hk.row.form
  have hlen := Lib.hid (show rs.length = d.fs.length by rw [← hk.fs, List.length_map])
  have hle := hk.le
  have hK := Lib.hid hk
  have hlv' := Lib.hid hlv
  have hH := Lib.hid h
  clear h hk hlv
  go_enter Try.func55, Try.ntmps55
  go_wp2_with fail
  go_loopw [3, 4] (fun o i wr => ∃ k : Nat, k ≤ rs.length ∧ i = .int .i64 k ∧ ∃ A' c' S', o = .slice A' k c' ∧ H W wr (S' :: rhdr b d lv :: SL :: rdatas rs :: L) ∧ OwnS 9 1 (.slice A' k c') k ((namesV d.fs).take k) S') (fun _ i _ => rs.length - (intOf i).toNat)
  case atStart => exact ⟨0, Nat.zero_le _, rfl, none, 0, [], rfl, hH.out.addNil, OwnS.nil _ _⟩
  case round =>
    obtain ⟨k, hk, rfl, A', c', S', rfl, h1, h2⟩ := hrel
    have h1' := Lib.hid h1
    have h2' := Lib.hid h2
    have c0 : wr.cell? ⟨b, 0, none⟩ = some (.slice A rs.length cap) := by rw [← hlv'.out]; exact h1.cellAt 1 0 0 rfl rfl rfl
    clear h1 h2
    by_cases hlt : k < rs.length
    · have hki : (k : Int) < (rs.length : Int) := by omega
      obtain ⟨g, cap', cur, e1, e2, _, _, e5⟩ := rrow hK.out.row (by omega)
      obtain ⟨rfl, rfl⟩ : A = some ⟨g, 0, none⟩ ∧ cap = cap' := by rw [hlv'.out] at e1; simpa using e1
      have c1 : wr.cell? ⟨g, k * 3, none⟩ = some (.string (bstr rs[k].a.name)) :=
        h1'.out.cellAt 2 0 (k * 3) (by rw [e2]; rfl) rfl (by have := e5 k hlt 0 (by decide); rw [Nat.add_zero] at this; rw [this]; rfl)
      have hgl2 : g < wr.heap.size := h1'.out.ltAt 2 0 (s := SL) rfl (by rw [e2]; rfl)
      have hfk := Lib.hid (show (namesV d.fs).take (k + 1) = (namesV d.fs).take k ++ [.string (bstr rs[k].a.name)] by
        rw [List.take_add_one]
        congr 1
        rw [← hK.out.fs]
        simp [namesV, hlt])
      have ho : ∀ u ∈ [Value.string (bstr rs[k].a.name)], u.oneCell' = true := by intro u hu; simp at hu; subst hu; rfl
      have ho' := Lib.hid ho
      have hl1 := Lib.hid (((h1'.out.lit (E := 9) (size := 1) #[.string (bstr rs[k].a.name)] 1 (of_decide_eq_true rfl) rfl).rs (rhdr b d lv :: SL :: rdatas rs :: L)).cons S')
      clear e1 e2 e5 ho
      obtain ⟨nm, hnm⟩ : ∃ nm, rs[k].a.name = nm := ⟨_, rfl⟩
      rw [hnm] at c1 hfk ho' hl1
      clear hnm
      go_wp2_with (at_builtin; refine wpl_append rfl (.tmp 14) (.tmp 23) rfl et69 rfl rfl ((h1'.out.alloc (.cells #[.string (bstr nm)] 9)).swap) h2'.out hl1.out ho'.out (by omega) (by omega) ?_; intro A2 c2 w2 S2 h3 h4; have h3' := Lib.hid h3; have h4' := Lib.hid h4; clear h3 h4)
      go_roundw
      case rel =>
        refine ⟨k + 1, by omega, by go_num, A2, c2, S2, rfl, h3'.out.swap.drop, ?_⟩
        rw [hfk.out]; exact h4'.out
      case measure => simp [intOf]; omega
    · have hkn : k = rs.length := by omega
      subst hkn
      go_wp2_with fail
      go_ret
      rw [hlen.out] at h2'
      refine ⟨A', c', S', by rw [← hlen.out]; rfl, ⟨lv, SL, rs, h1'.out.tail3, hK.out⟩, ?_⟩
      have := h2'.out
      rw [List.take_of_length_le (by simp [namesV])] at this
      exact this
end Go.Proofs.Ytfhoblchgeijkaa
