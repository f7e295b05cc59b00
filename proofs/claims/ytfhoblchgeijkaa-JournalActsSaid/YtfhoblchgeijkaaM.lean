import Derived.Test.YtfhoblchgeijkaaK
namespace Go.Proofs.Ytfhoblchgeijkaa
open Go.RowKit Go.Maps
variable {W w : World} {L T : List Seg} {v : Value} {l n bs : Bs} {b M : Nat} {d : AD} {SM X S : Seg} {rs rs1 rs2 : List FR} {r : FR} {fs : List (Bs × Nat)}

def PRem (W : World) (b M bd bn : Nat) (d : AD) (n : Bs) (fs : List (Bs × Nat)) (T : List Seg) (w' : World) : Prop :=
  ∃ SM', H W w' (SM' :: bx25 bd b :: bx9 bn n :: dhdr b M d.wrote :: T) ∧ MapS Try.prog 9 M (delL Prod.fst n fs) SM'

set_option maxHeartbeats 400000 in
theorem chg_rem {B bd bn : Nat} (hop : Calls Try.prog 45 #[.pointer (some ⟨b, 0, none⟩), .string (bstr n)] w (POpen (some B) 0 fun w' => w = w'))
    (h : H W w (dhdr b M d :: SM :: bx25 bd b :: bx9 bn n :: T)) (hM : MapS Try.prog 9 M fs SM) (hn : n.length ≤ maxLen) (hl : d.left < 9223372036854775808) (hwv : d.writes = true) :
    Calls Try.prog 40 #[.pointer (some ⟨b, 0, none⟩), .string (bstr n), .func (.func 47) #[] #[.pointer (some ⟨bd, 0, none⟩), .pointer (some ⟨bn, 0, none⟩)]] w (PErr 0 (PRem W b M bd bn d n fs T)) := by
  have h' := Lib.hid h
  have hM' := Lib.hid hM
  clear h hM
  go_enter Try.func40, Try.ntmps40
  go_wp2_with (first
    | (go_at_call 45; refine hop.mono ?_; rintro e w1 ⟨rfl, rfl⟩; unfold ptrV)
    | (go_at_call 43; refine (write_hdr h'.out hl).mono ?_; rw [hwv]; rintro e w3 ⟨rfl, h4⟩; have h4' := Lib.hid (show H W w3 (SM :: bx25 bd b :: bx9 bn n :: dhdr b M d.wrote :: T) from ((h4.pick 3 rfl).pick 3 rfl).pick 3 rfl); clear h4)
    | (go_at_call 47; refine (rem_clo h4'.out hM'.out hn).mono ?_; rintro e w4 ⟨rfl, SM', h5, h6⟩))
  go_ret
  exact ⟨rfl, SM', h5, h6⟩

set_option maxHeartbeats 400000 in
theorem rem_of {x : Int} {P : World → Prop} (hc : Calls Try.prog 40 #[.pointer (some ⟨b, 0, none⟩), .string (bstr n), .func (.func 47) #[] #[.pointer (some ⟨w.heap.size, 0, none⟩), .pointer (some ⟨w.heap.size + 1, 0, none⟩)]]
      ((w.alloc (.cells #[.pointer (some ⟨b, 0, none⟩)] 25)).alloc (.cells #[.string (bstr n)] 9)) (PErr x P)) :
    Calls Try.prog 17 #[.pointer (some ⟨b, 0, none⟩), .string (bstr n)] w (PErr x P) := by
  go_enter Try.func17, Try.ntmps17
  go_wp2_with (go_at_call 40; refine hc.mono ?_; rintro e w1 ⟨rfl, h1⟩)
  go_ret
  exact ⟨rfl, h1⟩

theorem Disk.mono {w : World} {L' : List Seg} (h : Disk W w L b d) (hs : L'.flatten.Sublist L.flatten) : Disk W w L' b d := by
  obtain ⟨M, SM, rs, h1, h2⟩ := h
  refine ⟨M, SM, rs, h1.sub ?_, h2⟩
  simp only [List.flatten_cons]
  exact (((hs.append_left _).append_left _).append_left _)
theorem Disk.drop {A : Seg} (h : Disk W w (A :: L) b d) : Disk W w L b d := h.mono (by simp)
theorem Disk.alloc (h : Disk W w L b d) (o : Obj) : Disk W (w.alloc o) ([(w.heap.size, o)] :: L) b d := by
  obtain ⟨M, SM, rs, h1, h2⟩ := h
  exact ⟨M, SM, rs, (h1.alloc o).re (by intro c hc h0; simp only [List.flatten_cons, hc]; omega), h2⟩
theorem Disk.lt (h : Disk W w L b d) : b < w.heap.size := by
  obtain ⟨M, SM, rs, h1, h2⟩ := h
  exact h1.ltAt 0 0 rfl rfl

def remF (n : Bs) : List AF → List AF := delL AF.name n

theorem delL_map {α β : Type} (h : α → β) (f : β → Bs) (n : Bs) (l : List α) : (delL (fun y => f (h y)) n l).map h = delL f n (l.map h) := by
  unfold delL
  rw [List.filter_map]
  rfl

theorem frs_sub {rs' rs : List FR} (h : rs'.Sublist rs) : (frs rs').Sublist (frs rs) := by
  unfold frs
  induction h with
  | slnil => exact List.Sublist.refl _
  | cons a _ ih => rw [List.flatMap_cons]; exact ih.trans (List.sublist_append_right _ _)
  | cons_cons a _ ih => rw [List.flatMap_cons, List.flatMap_cons]; exact ih.append_left _

theorem rem_disk (h : Disk W w L b d) (hn : n.length ≤ 1099511627776) :
    Calls Try.prog 17 #[.pointer (some ⟨b, 0, none⟩), .string (bstr n)] w (PErr (d.chgE n) fun w' => Disk W w' L b (d.chg n (remF n))) := by
  have h2 := (h.alloc (.cells #[.pointer (some ⟨b, 0, none⟩)] 25)).alloc (.cells #[.string (bstr n)] 9)
  simp only [World.size_alloc] at h2
  refine rem_of ((chg_any (g := remF n) _ h2 hn ?_).mono ?_)
  · intro M SM rs1 r rs2 hk hnm hne hwv he hop h1
    refine (chg_rem (W := W) (T := frs (rs1 ++ r :: rs2) :: L) (bd := w.heap.size) (bn := w.heap.size + 1) (M := M) (SM := SM) (d := d) hop ?_ hk.map (by unfold maxLen; omega) hk.left hwv).mono ?_
    · rw [frs_mid]
      exact h1.re (by intro c hc h0; simp only [List.flatten_cons, hc, bx25, bx9]; omega)
    · rintro e w' ⟨rfl, SM', h3, h4⟩
      refine ⟨rfl, M, SM', delL (fun y : FR => (FR.nb y).1) n (rs1 ++ r :: rs2), ?_, ?_⟩
      · rw [dhdr_fs]
        have h5 : H W w' (frs (rs1 ++ r :: rs2) :: SM' :: [(w.heap.size, Obj.cells #[.pointer (some ⟨b, 0, none⟩)] 25)] :: [(w.heap.size + 1, Obj.cells #[.string (bstr n)] 9)] :: dhdr b M d.wrote :: L) :=
          h3.re (by intro c hc h0; simp only [List.flatten_cons, hc, bx25, bx9]; omega)
        have h6 := h5.sub (L' := frs (delL (fun y : FR => (FR.nb y).1) n (rs1 ++ r :: rs2)) :: SM' :: [(w.heap.size, Obj.cells #[.pointer (some ⟨b, 0, none⟩)] 25)] :: [(w.heap.size + 1, Obj.cells #[.string (bstr n)] 9)] :: dhdr b M d.wrote :: L) (by
          simp only [List.flatten_cons]
          exact (frs_sub List.filter_sublist).append_right _)
        exact h6.re (by intro c hc h0; simp only [List.flatten_cons, hc]; omega)
      · refine ⟨?_, fun q hq => hk.each q (List.mem_filter.1 hq).1, ?_, wrote_left hk.left, ?_⟩
        · rw [delL_map FR.nb Prod.fst]; exact h4
        · show _ = remF n d.fs
          rw [← hk.fs]; exact delL_map FR.a AF.name n _
        · have := hk.le
          exact Nat.le_trans (List.length_filter_le _ _) this
  · rintro e w' ⟨rfl, h3⟩
    exact ⟨rfl, h3.drop.drop⟩
end Go.Proofs.Ytfhoblchgeijkaa
