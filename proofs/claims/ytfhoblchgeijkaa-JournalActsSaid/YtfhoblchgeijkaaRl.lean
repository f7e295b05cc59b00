import Derived.Test.YtfhoblchgeijkaaRk
namespace Go.Proofs.Ytfhoblchgeijkaa
open Go.RowKit Go.Maps
variable {W w : World} {L T : List Seg} {v : Value} {l n bs : Bs} {b M : Nat} {d : AD} {S SM : Seg} {r : FR} {fs : List (Bs × Nat)}

def bx3 (B : Nat) (x : Int) : Seg := [(B, .cells #[.int .i64 x] 3 (0, 0))]

theorem slice_cut8 {A : Option Addr} {N cap i : Nat} (hi : i ≤ cap) (x : Int) (hx : x = (i : Int)) (w : World) : (Instr.slice 27 (.slice A N cap) none (some (.int .i64 x)) (some (.int .i64 x))).run Try.prog w = .ok (.slice A i i) w := by
  subst hx
  have e3 : (sizeOf 5).run Try.prog w = .ok 1 w := by kernel_rfl
  simp [Instr.slice, run_underlying Try.underlying27, Instr.sliceBounds, Instr.sliceBound, asIntOf, hi, e3, Addr.add]

theorem CutS.cut {A : Option Addr} {cap i : Nat} (h : CutS (.slice A l.length cap) l S) (hi : i ≤ l.length) : CutS (.slice A i i) (l.take i) S := by
  rcases h with ⟨h1, h2, h3⟩ | ⟨g, cap', cur, h1, h2, h3, h4, h5, h6⟩
  · subst h2
    simp only [Value.slice.injEq] at h1
    obtain ⟨rfl, _, rfl⟩ := h1
    have : i = 0 := by simpa using hi
    subst this
    exact .inl ⟨rfl, rfl, h3⟩
  · simp only [Value.slice.injEq] at h1
    obtain ⟨rfl, _, rfl⟩ := h1
    rw [h2]
    exact cut_keep i hi h3 h4 h5 h6

set_option maxHeartbeats 1600000 in
theorem trunc_clo {bd : Nat} {sz : Int} (h : H W w (fhdr r :: bx3 bd sz :: T)) (hok : r.ok) :
    Calls Try.prog 70 #[.pointer (some ⟨r.blk, 0, none⟩), .pointer (some ⟨bd, 0, none⟩)] w (PVoid fun w' => ∃ v', H W w' ([(r.blk, .cells #[v', .int .i64 (min r.a.dur (min sz.toNat r.a.data.length) : Nat)] 77 (0, 0))] :: bx3 bd sz :: T) ∧ CutS v' (r.a.data.take (min sz.toNat r.a.data.length)) r.S) := by
  obtain ⟨A, cap, hv, hvc⟩ := hok.1.form
  have hcut := hok.1
  rw [hv] at hcut
  have hdb := hok.2.1
  have hdu := hok.2.2
  obtain ⟨dl, hdl⟩ : ∃ dl, r.a.data.length = dl := ⟨_, rfl⟩
  obtain ⟨tn, htn⟩ : ∃ tn, min sz.toNat dl = tn := ⟨_, rfl⟩
  have c0 : w.cell? ⟨r.blk, 0, none⟩ = some (.slice A dl cap) := by rw [← hdl, ← hv]; exact h.cellAt 0 0 0 rfl rfl rfl
  have c1 : w.cell? ⟨r.blk, 1, none⟩ = some (.int .i64 r.a.dur) := h.cellAt 0 0 1 rfl rfl rfl
  have c2 : w.cell? ⟨bd, 0, none⟩ = some (.int .i64 sz) := h.cellAt 1 0 0 rfl rfl rfl
  have f0 := fun k => h.freeAt 0 0 k rfl rfl
  have hfin := Lib.hid (hcut.cut (i := min sz.toNat r.a.data.length) (Nat.min_le_right _ _))
  have h' := Lib.hid h
  rw [hdl, htn] at hfin ⊢
  rw [hdl] at hvc hdb hdu
  have htl : tn ≤ dl := by omega
  have htz : sz.toNat ≤ tn ∨ tn = dl := by omega
  have hsl : ∀ w, (Instr.slice 27 (.slice A dl cap) none (some (.int .i64 (tn : Int))) (some (.int .i64 (tn : Int)))).run Try.prog w = .ok (.slice A tn tn) w := fun w => slice_cut8 (by omega) _ rfl w
  have hmm : min (max sz 0) (dl : Int) = (tn : Int) := by omega
  have hmn : min (r.a.dur : Int) (tn : Int) = ((min r.a.dur tn : Nat) : Int) := by omega
  have hmn' := Lib.hid hmn
  clear h hok hv hcut hdl hmn
  go_enter Try.func70, Try.ntmps70
  go_wp2_with fail
  go_quiet (fail)
  go_wp2_with fail
  go_end0
  rw [hmn'.out]
  refine ⟨rfl, .slice A tn tn, ?_, hfin.out⟩
  have := ((h'.out.drewN nq).setCell 0 (.slice A tn tn)).setCell 1 (.int .i64 ((min r.a.dur tn : Nat) : Int))
  exact this

set_option maxHeartbeats 400000 in
theorem chg_trunc {bd : Nat} {sz : Int} (hop : Calls Try.prog 45 #[.pointer (some ⟨b, 0, none⟩), .string (bstr n)] w (POpen (some r.blk) 0 fun w' => w = w'))
    (h : H W w (dhdr b M d :: fhdr r :: bx3 bd sz :: T)) (hok : r.ok) (hl : d.left < 9223372036854775808) (hwv : d.writes = true) :
    Calls Try.prog 40 #[.pointer (some ⟨b, 0, none⟩), .string (bstr n), .func (.func 70) #[] #[.pointer (some ⟨bd, 0, none⟩)]] w (PErr 0 fun w' => ∃ v', H W w' ([(r.blk, .cells #[v', .int .i64 (min r.a.dur (min sz.toNat r.a.data.length) : Nat)] 77 (0, 0))] :: bx3 bd sz :: dhdr b M d.wrote :: T) ∧ CutS v' (r.a.data.take (min sz.toNat r.a.data.length)) r.S) := by
  have h' := Lib.hid h
  have hok' := Lib.hid hok
  clear h hok
  go_enter Try.func40, Try.ntmps40
  go_wp2_with (first
    | (go_at_call 45; refine hop.mono ?_; rintro e w1 ⟨rfl, rfl⟩; unfold ptrV)
    | (go_at_call 43; refine (write_hdr h'.out hl).mono ?_; rw [hwv]; rintro e w3 ⟨rfl, h4⟩; have h4' := Lib.hid (show H W w3 (fhdr r :: bx3 bd sz :: dhdr b M d.wrote :: T) from (h4.pick 2 rfl).pick 2 rfl); clear h4)
    | (go_at_call 70; refine (trunc_clo h4'.out hok'.out).mono ?_; rintro e w4 ⟨rfl, v', h5, h6⟩))
  go_ret
  exact ⟨rfl, v', h5, h6⟩

set_option maxHeartbeats 400000 in
theorem trunc_of {x sz : Int} {P : World → Prop} (hc : Calls Try.prog 40 #[.pointer (some ⟨b, 0, none⟩), .string (bstr n), .func (.func 70) #[] #[.pointer (some ⟨w.heap.size, 0, none⟩)]] (w.alloc (.cells #[.int .i64 sz] 3)) (PErr x P)) :
    Calls Try.prog 48 #[.pointer (some ⟨b, 0, none⟩), .string (bstr n), .int .i64 sz] w (PErr x P) := by
  go_enter Try.func48, Try.ntmps48
  go_wp2_with (go_at_call 40; refine hc.mono ?_; rintro e w1 ⟨rfl, h1⟩)
  go_ret
  exact ⟨rfl, h1⟩

theorem trunc_disk (sz : Int) (h : Disk W w L b d) (hn : n.length ≤ 1099511627776) :
    Calls Try.prog 48 #[.pointer (some ⟨b, 0, none⟩), .string (bstr n), .int .i64 sz] w (PErr (d.chgE n) fun w' => Disk W w' L b (d.chg n (truncF sz n))) := by
  have h2 := h.alloc (.cells #[.int .i64 sz] 3)
  refine trunc_of ((chg_any (g := truncF sz n) _ h2 hn ?_).mono ?_)
  · intro M SM rs1 r rs2 hk hnm hne hwv he hop h1
    have hok := hk.each r (by simp)
    refine (chg_trunc (W := W) (M := M) (d := d) (bd := w.heap.size) (sz := sz) (T := r.S :: frs rs2 :: frs rs1 :: SM :: L) hop (h1.re (by intro c hc h0; simp only [List.flatten_cons, hc, bx3]; omega)) hok hk.left hwv).mono ?_
    rintro e w' ⟨rfl, v', h3, h4⟩
    refine ⟨rfl, ?_⟩
    refine disk_upd (r' := ⟨truncG sz r.a, r.blk, v', r.S⟩) hk rfl rfl ⟨h4, ?_, ?_⟩ (updL_fs hk.fs hnm hne _) (wrote_left hk.left) ?_
    · have := hok.2.1; show (List.take _ _).length ≤ _; rw [List.length_take]; omega
    · show min _ _ ≤ (List.take _ _).length; rw [List.length_take]; omega
    · rw [dhdr_fs]
      exact h3.re (by intro c hc h0; simp only [List.flatten_cons, hc, fhdr, bx3, truncG]; omega)
  · rintro e w' ⟨rfl, h3⟩
    exact ⟨rfl, h3.drop⟩
end Go.Proofs.Ytfhoblchgeijkaa
