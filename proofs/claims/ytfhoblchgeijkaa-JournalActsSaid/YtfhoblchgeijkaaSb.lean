import Derived.Test.YtfhoblchgeijkaaSa
namespace Go.Proofs.Ytfhoblchgeijkaa
open Go.RowKit Go.Maps
variable {W w : World} {L T : List Seg} {b : Nat} {d : AD}

theorem Disk.al6 {g : Nat} {C : Array Value} {fr : Nat × Nat} (h : Disk W w ([(g, .cells C 46 fr)] :: T) b d) (k : Nat) (u : Value) (hk : C[k]? = some u) : w.cell? ⟨g, k, none⟩ = some u := by
  obtain ⟨_, _, _, h1, _⟩ := h
  exact h1.cellAt 3 0 k rfl rfl hk
theorem RDisk.al6 {g : Nat} {C : Array Value} {fr : Nat × Nat} (h : RDisk W w ([(g, .cells C 46 fr)] :: T) b d) (k : Nat) (u : Value) (hk : C[k]? = some u) : w.cell? ⟨g, k, none⟩ = some u := by
  obtain ⟨_, _, _, h1, _⟩ := h
  exact h1.cellAt 3 0 k rfl rfl hk
theorem RDisk.alloc (h : RDisk W w T b d) (o : Obj) : RDisk W (w.alloc o) ([(w.heap.size, o)] :: T) b d := by
  obtain ⟨M, SM, rs, h1, h2⟩ := h
  exact ⟨M, SM, rs, (h1.alloc o).re (by intro c hc h0; simp only [List.flatten_cons, hc]; omega), h2⟩

set_option maxRecDepth 100000 in
set_option maxHeartbeats 3200000 in
theorem do_prog {x : AV} (h : Disk W w T b d) (hx : x.ok T) (hs : x.small) (hf : FOk 200 d.fs) : Calls Try.prog 20 #[.pointer (some ⟨b, 0, none⟩), .agg x.cells.toArray] w (PErr (d.stepE x) fun w' => Disk W w' T b (d.step x)) := by
  have hrl := Lib.hid ((hx.rl hs).cons [(w.heap.size, .cells x.cells.toArray 46 (0, 0))])
  have hri := Lib.hid ((hx.ri hs).cons [(w.heap.size, .cells x.cells.toArray 46 (0, 0))])
  have hnb := hx.n
  obtain ⟨s1, s2, s3, s4⟩ := hs
  have hF := Lib.hid hf
  obtain ⟨kind, nm, tgt, dt, nn, pk⟩ := x
  obtain ⟨dv, dt⟩ := dt
  obtain ⟨pv, ps⟩ := pk
  simp only [AV.cells] at hrl hri ⊢
  simp only at s1 s2 s3 s4 hnb
  unfold InI at hnb
  have hal := Lib.hid (h.alloc (.cells #[.int .i64 kind, .string (bstr nm), .string (bstr tgt), dv, .int .i64 nn, pv] 46))
  have c0 := hal.out.al6 0 _ rfl
  have c1 := hal.out.al6 1 _ rfl
  have c2 := hal.out.al6 2 _ rfl
  have c3 := hal.out.al6 3 _ rfl
  have c4 := hal.out.al6 4 _ rfl
  have c5 := hal.out.al6 5 _ rfl
  clear h hx hf
  by_cases k0 : kind = 0
  · subst k0
    have e0 : AD.step d ⟨0, nm, tgt, (dv, dt), nn, (pv, ps)⟩ = d.app nm dt := by simp [AD.step]
    have f0 : AD.stepE d ⟨0, nm, tgt, (dv, dt), nn, (pv, ps)⟩ = d.appE nm := by simp [AD.stepE]
    rw [e0, f0]
    clear e0 f0
    go_enter Try.func20, Try.ntmps20
    go_wp2_with fail
    refine (app_disk (n := nm) hal.out hrl.out (by omega) (by omega) (by intro f hf; have := hF.out.2 f hf; omega) (by have := hF.out.1; omega)).mono ?_
    rintro e w1 ⟨rfl, h2⟩
    have h2' := Lib.hid h2
    clear h2
    go_wp2_with fail
    go_ret
    exact ⟨rfl, h2'.out.drop⟩
  by_cases k1 : kind = 1
  · subst k1
    have e1 : AD.step d ⟨1, nm, tgt, (dv, dt), nn, (pv, ps)⟩ = d.chg nm (truncF nn nm) := by simp [AD.step]
    have f1 : AD.stepE d ⟨1, nm, tgt, (dv, dt), nn, (pv, ps)⟩ = d.chgE nm := by simp [AD.stepE]
    rw [e1, f1]
    clear e1 f1 k0
    go_enter Try.func20, Try.ntmps20
    go_wp2_with fail
    refine (trunc_disk (n := nm) nn hal.out (by omega)).mono ?_
    rintro e w1 ⟨rfl, h2⟩
    have h2' := Lib.hid h2
    clear h2
    go_wp2_with fail
    go_ret
    exact ⟨rfl, h2'.out.drop⟩
  by_cases k2 : kind = 2
  · subst k2
    have e2 : AD.step d ⟨2, nm, tgt, (dv, dt), nn, (pv, ps)⟩ = d.chg nm (syncF nm) := by simp [AD.step]
    have f2 : AD.stepE d ⟨2, nm, tgt, (dv, dt), nn, (pv, ps)⟩ = d.chgE nm := by simp [AD.stepE]
    rw [e2, f2]
    clear e2 f2 k0 k1
    go_enter Try.func20, Try.ntmps20
    go_wp2_with fail
    refine (sync_disk (n := nm) hal.out (by omega)).mono ?_
    rintro e w1 ⟨rfl, h2⟩
    have h2' := Lib.hid h2
    clear h2
    go_wp2_with fail
    go_ret
    exact ⟨rfl, h2'.out.drop⟩
  by_cases k3 : kind = 3
  · subst k3
    have e3 : AD.step d ⟨3, nm, tgt, (dv, dt), nn, (pv, ps)⟩ = d.ren nm tgt := by simp [AD.step]
    have f3 : AD.stepE d ⟨3, nm, tgt, (dv, dt), nn, (pv, ps)⟩ = d.renE nm tgt := by simp [AD.stepE]
    rw [e3, f3]
    clear e3 f3 k0 k1 k2
    go_enter Try.func20, Try.ntmps20
    go_wp2_with fail
    refine (ren_disk (n := nm) (t := tgt) hal.out (by omega) (by omega)).mono ?_
    rintro e w1 ⟨rfl, h2⟩
    have h2' := Lib.hid h2
    clear h2
    go_wp2_with fail
    go_ret
    exact ⟨rfl, h2'.out.drop⟩
  by_cases k4 : kind = 4
  · subst k4
    have e4 : AD.step d ⟨4, nm, tgt, (dv, dt), nn, (pv, ps)⟩ = d.chg nm (remF nm) := by simp [AD.step]
    have f4 : AD.stepE d ⟨4, nm, tgt, (dv, dt), nn, (pv, ps)⟩ = d.chgE nm := by simp [AD.stepE]
    rw [e4, f4]
    clear e4 f4 k0 k1 k2 k3
    go_enter Try.func20, Try.ntmps20
    go_wp2_with fail
    refine (rem_disk (n := nm) hal.out (by omega)).mono ?_
    rintro e w1 ⟨rfl, h2⟩
    have h2' := Lib.hid h2
    clear h2
    go_wp2_with fail
    go_ret
    exact ⟨rfl, h2'.out.drop⟩
  by_cases k5 : kind = 5
  · subst k5
    have e5 : AD.step d ⟨5, nm, tgt, (dv, dt), nn, (pv, ps)⟩ = d.arm nn := by simp [AD.step]
    have f5 : AD.stepE d ⟨5, nm, tgt, (dv, dt), nn, (pv, ps)⟩ = 0 := by simp [AD.stepE]
    rw [e5, f5]
    clear e5 f5 k0 k1 k2 k3 k4
    go_enter Try.func20, Try.ntmps20
    go_wp2_with fail
    refine (arm_disk hal.out nn (by omega)).mono ?_
    rintro e w1 ⟨rfl, h2⟩
    have h2' := Lib.hid h2
    clear h2
    go_wp2_with fail
    go_ret
    exact ⟨rfl, h2'.out.drop⟩
  by_cases k6 : kind = 6
  · subst k6
    have e6 : AD.step d ⟨6, nm, tgt, (dv, dt), nn, (pv, ps)⟩ = d.crash ps := by simp [AD.step]
    have f6 : AD.stepE d ⟨6, nm, tgt, (dv, dt), nn, (pv, ps)⟩ = 0 := by simp [AD.stepE]
    rw [e6, f6]
    clear e6 f6 k0 k1 k2 k3 k4 k5
    go_enter Try.func20, Try.ntmps20
    go_wp2_with fail
    refine (crash_disk hal.out hri.out (by intro f hf; have := hF.out.2 f hf; unfold maxLen; omega)).mono ?_
    rintro e w1 ⟨rfl, h2⟩
    have h2' := Lib.hid h2
    clear h2
    go_wp2_with fail
    go_ret
    exact ⟨rfl, h2'.out.drop⟩
  have e7 : AD.step d ⟨kind, nm, tgt, (dv, dt), nn, (pv, ps)⟩ = d := by simp [AD.step, k0, k1, k2, k3, k4, k5, k6]
  have f7 : AD.stepE d ⟨kind, nm, tgt, (dv, dt), nn, (pv, ps)⟩ = 0 := by simp [AD.stepE, k0, k1, k2, k3, k4]
  rw [e7, f7]
  have q0 : (kind == 0) = false := by simpa using k0
  have q1 : (kind == 1) = false := by simpa using k1
  have q2 : (kind == 2) = false := by simpa using k2
  have q3 : (kind == 3) = false := by simpa using k3
  have q4 : (kind == 4) = false := by simpa using k4
  have q5 : (kind == 5) = false := by simpa using k5
  have q6 : (kind == 6) = false := by simpa using k6
  clear e7 f7 k0 k1 k2 k3 k4 k5 k6
  go_enter Try.func20, Try.ntmps20
  go_wp2_with fail
  go_ret
  exact ⟨rfl, hal.out.drop⟩

set_option maxRecDepth 100000 in
set_option maxHeartbeats 3200000 in
theorem do_ref {x : AV} (h : RDisk W w T b d) (hx : x.ok T) (hs : x.small) (hf : FOk 200 d.fs) (hso : d.sorted) : Calls Try.prog 21 #[.pointer (some ⟨b, 0, none⟩), .agg x.cells.toArray] w (PErr (d.stepE x) fun w' => RDisk W w' T b (d.step x)) := by
  have hrl := Lib.hid ((hx.rl hs).cons [(w.heap.size, .cells x.cells.toArray 46 (0, 0))])
  have hri := Lib.hid ((hx.ri hs).cons [(w.heap.size, .cells x.cells.toArray 46 (0, 0))])
  have hnb := hx.n
  obtain ⟨s1, s2, s3, s4⟩ := hs
  have hF := Lib.hid hf
  obtain ⟨kind, nm, tgt, dt, nn, pk⟩ := x
  obtain ⟨dv, dt⟩ := dt
  obtain ⟨pv, ps⟩ := pk
  simp only [AV.cells] at hrl hri ⊢
  simp only at s1 s2 s3 s4 hnb
  unfold InI at hnb
  have hal := Lib.hid (h.alloc (.cells #[.int .i64 kind, .string (bstr nm), .string (bstr tgt), dv, .int .i64 nn, pv] 46))
  have c0 := hal.out.al6 0 _ rfl
  have c1 := hal.out.al6 1 _ rfl
  have c2 := hal.out.al6 2 _ rfl
  have c3 := hal.out.al6 3 _ rfl
  have c4 := hal.out.al6 4 _ rfl
  have c5 := hal.out.al6 5 _ rfl
  clear h hx hf
  by_cases k0 : kind = 0
  · subst k0
    have e0 : AD.step d ⟨0, nm, tgt, (dv, dt), nn, (pv, ps)⟩ = d.app nm dt := by simp [AD.step]
    have f0 : AD.stepE d ⟨0, nm, tgt, (dv, dt), nn, (pv, ps)⟩ = d.appE nm := by simp [AD.stepE]
    rw [e0, f0]
    clear e0 f0
    go_enter Try.func21, Try.ntmps21
    go_wp2_with fail
    refine (rapp_disk (n := nm) hal.out hrl.out (by omega) (by intro f hf; have := hF.out.2 f hf; omega) (by have := hF.out.1; omega)).mono ?_
    rintro e w1 ⟨rfl, h2⟩
    have h2' := Lib.hid h2
    clear h2
    go_wp2_with fail
    go_ret
    exact ⟨rfl, h2'.out.drop⟩
  by_cases k1 : kind = 1
  · subst k1
    have e1 : AD.step d ⟨1, nm, tgt, (dv, dt), nn, (pv, ps)⟩ = d.chg nm (truncF nn nm) := by simp [AD.step]
    have f1 : AD.stepE d ⟨1, nm, tgt, (dv, dt), nn, (pv, ps)⟩ = d.chgE nm := by simp [AD.stepE]
    rw [e1, f1]
    clear e1 f1 k0
    go_enter Try.func21, Try.ntmps21
    go_wp2_with fail
    refine (rtrunc_disk (n := nm) nn hal.out).mono ?_
    rintro e w1 ⟨rfl, h2⟩
    have h2' := Lib.hid h2
    clear h2
    go_wp2_with fail
    go_ret
    exact ⟨rfl, h2'.out.drop⟩
  by_cases k2 : kind = 2
  · subst k2
    have e2 : AD.step d ⟨2, nm, tgt, (dv, dt), nn, (pv, ps)⟩ = d.chg nm (syncF nm) := by simp [AD.step]
    have f2 : AD.stepE d ⟨2, nm, tgt, (dv, dt), nn, (pv, ps)⟩ = d.chgE nm := by simp [AD.stepE]
    rw [e2, f2]
    clear e2 f2 k0 k1
    go_enter Try.func21, Try.ntmps21
    go_wp2_with fail
    refine (rsync_disk (n := nm) hal.out).mono ?_
    rintro e w1 ⟨rfl, h2⟩
    have h2' := Lib.hid h2
    clear h2
    go_wp2_with fail
    go_ret
    exact ⟨rfl, h2'.out.drop⟩
  by_cases k3 : kind = 3
  · subst k3
    have e3 : AD.step d ⟨3, nm, tgt, (dv, dt), nn, (pv, ps)⟩ = d.ren nm tgt := by simp [AD.step]
    have f3 : AD.stepE d ⟨3, nm, tgt, (dv, dt), nn, (pv, ps)⟩ = d.renE nm tgt := by simp [AD.stepE]
    rw [e3, f3]
    clear e3 f3 k0 k1 k2
    go_enter Try.func21, Try.ntmps21
    go_wp2_with fail
    refine (rren_disk (n := nm) (t := tgt) hal.out hso).mono ?_
    rintro e w1 ⟨rfl, h2⟩
    have h2' := Lib.hid h2
    clear h2
    go_wp2_with fail
    go_ret
    exact ⟨rfl, h2'.out.drop⟩
  by_cases k4 : kind = 4
  · subst k4
    have e4 : AD.step d ⟨4, nm, tgt, (dv, dt), nn, (pv, ps)⟩ = d.chg nm (remF nm) := by simp [AD.step]
    have f4 : AD.stepE d ⟨4, nm, tgt, (dv, dt), nn, (pv, ps)⟩ = d.chgE nm := by simp [AD.stepE]
    rw [e4, f4]
    clear e4 f4 k0 k1 k2 k3
    go_enter Try.func21, Try.ntmps21
    go_wp2_with fail
    refine (rrem_disk (n := nm) hal.out hso).mono ?_
    rintro e w1 ⟨rfl, h2⟩
    have h2' := Lib.hid h2
    clear h2
    go_wp2_with fail
    go_ret
    exact ⟨rfl, h2'.out.drop⟩
  by_cases k5 : kind = 5
  · subst k5
    have e5 : AD.step d ⟨5, nm, tgt, (dv, dt), nn, (pv, ps)⟩ = d.arm nn := by simp [AD.step]
    have f5 : AD.stepE d ⟨5, nm, tgt, (dv, dt), nn, (pv, ps)⟩ = 0 := by simp [AD.stepE]
    rw [e5, f5]
    clear e5 f5 k0 k1 k2 k3 k4
    go_enter Try.func21, Try.ntmps21
    go_wp2_with fail
    refine (rarm_disk hal.out nn (by omega)).mono ?_
    rintro e w1 ⟨rfl, h2⟩
    have h2' := Lib.hid h2
    clear h2
    go_wp2_with fail
    go_ret
    exact ⟨rfl, h2'.out.drop⟩
  by_cases k6 : kind = 6
  · subst k6
    have e6 : AD.step d ⟨6, nm, tgt, (dv, dt), nn, (pv, ps)⟩ = d.crash ps := by simp [AD.step]
    have f6 : AD.stepE d ⟨6, nm, tgt, (dv, dt), nn, (pv, ps)⟩ = 0 := by simp [AD.stepE]
    rw [e6, f6]
    clear e6 f6 k0 k1 k2 k3 k4 k5
    go_enter Try.func21, Try.ntmps21
    go_wp2_with fail
    refine (rcrash_disk hal.out hri.out).mono ?_
    rintro e w1 ⟨rfl, h2⟩
    have h2' := Lib.hid h2
    clear h2
    go_wp2_with fail
    go_ret
    exact ⟨rfl, h2'.out.drop⟩
  have e7 : AD.step d ⟨kind, nm, tgt, (dv, dt), nn, (pv, ps)⟩ = d := by simp [AD.step, k0, k1, k2, k3, k4, k5, k6]
  have f7 : AD.stepE d ⟨kind, nm, tgt, (dv, dt), nn, (pv, ps)⟩ = 0 := by simp [AD.stepE, k0, k1, k2, k3, k4]
  rw [e7, f7]
  have q0 : (kind == 0) = false := by simpa using k0
  have q1 : (kind == 1) = false := by simpa using k1
  have q2 : (kind == 2) = false := by simpa using k2
  have q3 : (kind == 3) = false := by simpa using k3
  have q4 : (kind == 4) = false := by simpa using k4
  have q5 : (kind == 5) = false := by simpa using k5
  have q6 : (kind == 6) = false := by simpa using k6
  clear e7 f7 k0 k1 k2 k3 k4 k5 k6
  go_enter Try.func21, Try.ntmps21
  go_wp2_with fail
  go_ret
  exact ⟨rfl, hal.out.drop⟩
end Go.Proofs.Ytfhoblchgeijkaa
