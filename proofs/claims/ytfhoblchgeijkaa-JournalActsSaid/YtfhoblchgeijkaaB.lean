import Derived.Test.YtfhoblchgeijkaaA
import Derived.Carry
namespace Go.Proofs.Ytfhoblchgeijkaa
open Go.RowKit Go.Maps

/-- A file, as data. -/
structure AF where
  name : Bs
  data : Bs
  dur : Nat
/-- A disk, as data; its files in the order of names. -/
structure AD where
  fs : List AF
  off : Bool
  armed : Bool
  left : Nat
/-- A file as it lies in the program's disk. -/
structure FR where
  a : AF
  blk : Nat
  v : Value
  S : Seg
def FR.seg (r : FR) : Seg := (r.blk, .cells #[r.v, .int .i64 r.a.dur] 77 (0, 0)) :: r.S
def FR.ok (r : FR) : Prop := CutS r.v r.a.data r.S ∧ r.a.data.length ≤ 1099511627776 ∧ r.a.dur ≤ r.a.data.length
def FR.nb (r : FR) : Bs × Nat := (r.a.name, r.blk)
def frs (rs : List FR) : Seg := rs.flatMap FR.seg
def dhdr (b M : Nat) (d : AD) : Seg := [(b, .cells #[.map (some M), .bool d.off, .bool d.armed, .int .i64 d.left] 73 (0, 0))]

structure DOk (d : AD) (M : Nat) (SM : Seg) (rs : List FR) : Prop where
  map : MapS Try.prog 9 M (rs.map FR.nb) SM
  each : ∀ r ∈ rs, r.ok
  fs : rs.map FR.a = d.fs
  left : d.left < 9223372036854775808
  le : rs.length ≤ 1099511627776

/-- The disk at block b, in w. -/
def Disk (W w : World) (L : List Seg) (b : Nat) (d : AD) : Prop :=
  ∃ M SM rs, H W w (dhdr b M d :: SM :: frs rs :: L) ∧ DOk d M SM rs

def AD.new : AD := ⟨[], false, false, 0⟩
/-- The number of the error that 'open' gives. -/
def AD.openE (d : AD) (n : Bs) : Int := if n = [] then 1 else if d.off then 103 else 0
def AD.find (d : AD) (n : Bs) : Option AF := d.fs.find? fun f => f.name == n
def AD.existE (d : AD) (n : Bs) : Int := if n = [] then 1 else if d.off then 103 else if (d.find n).isNone then 6 else 0

variable {W w : World} {L : List Seg} {v : Value} {l n : Bs} {b M : Nat} {d : AD} {SM : Seg} {rs : List FR}

def PNew (W : World) (L : List Seg) (e : Ending) (w' : World) : Prop := ∃ b, e = .returned (.pointer (some ⟨b, 0, none⟩)) ∧ Disk W w' L b AD.new

theorem disk_new (h : H W w L) : Disk W ((w.alloc (.map #[] 0)).alloc (.cells #[.map (some w.heap.size), .bool false, .bool false, .int .i64 0] 73)) L (w.heap.size + 1) AD.new := by
  refine ⟨w.heap.size, _, [], ?_, MapS.new _ _ _, by simp, rfl, by decide, by simp⟩
  have := ((h.alloc (.map #[] 0)).alloc (.cells #[.map (some w.heap.size), .bool false, .bool false, .int .i64 0] 73))
  simp only [World.size_alloc] at this
  exact this.perm (by simp [dhdr, frs, AD.new])

set_option maxHeartbeats 400000 in
theorem new_any (hH : H W w L) : Calls Try.prog 11 #[] w (PNew W L) := by
  have hmm := @run_makeMap Try.prog
  have h' := Lib.hid (disk_new hH)
  clear hH
  go_enter Try.func11, Try.ntmps11
  go_wp2
  go_ret
  exact ⟨_, rfl, h'.out⟩

def POpen (o : Option Nat) (c : Int) (P : World → Prop) (e : Ending) (w' : World) : Prop := e = .returned (.tuple #[ptrV o, .int .i64 c]) ∧ P w'

set_option maxHeartbeats 400000 in
theorem open_nil (n : Bs) (w : World) : Calls Try.prog 42 #[.pointer none, .string (bstr n)] w (POpen none 1 fun w' => w = w') := by
  go_enter Try.func42, Try.ntmps42
  go_wp2
  go_ret2
  exact ⟨rfl, rfl⟩

set_option maxHeartbeats 400000 in
theorem open_empty (b : Nat) (w : World) : Calls Try.prog 42 #[.pointer (some ⟨b, 0, none⟩), .string (bstr [])] w (POpen none 1 fun w' => w = w') := by
  have ks : (bstr []).toList.isEmpty = true := by rw [bstr_toList]; rfl
  go_enter Try.func42, Try.ntmps42
  go_wp2
  go_ret2
  exact ⟨rfl, rfl⟩

set_option maxHeartbeats 400000 in
theorem open_off (n : Bs) (hn : n ≠ []) (b : Nat) (w : World) (c1 : w.cell? ⟨b, 1, none⟩ = some (.bool true)) :
    Calls Try.prog 42 #[.pointer (some ⟨b, 0, none⟩), .string (bstr n)] w (POpen none 103 fun w' => w = w') := by
  have ks : (bstr n).toList.isEmpty = false := by rw [bstr_toList]; simpa using hn
  go_enter Try.func42, Try.ntmps42
  go_wp2_with fail
  go_ret2
  exact ⟨rfl, rfl⟩

theorem zero75 (w : World) : (zeroValue 75).run Try.prog w = .ok (.pointer none) w := by kernel_rfl

set_option maxHeartbeats 400000 in
theorem open_on (n : Bs) (hn : n ≠ []) (b : Nat) (w : World) (c0 : w.cell? ⟨b, 0, none⟩ = some (.map (some M))) (c1 : w.cell? ⟨b, 1, none⟩ = some (.bool false)) (o : Option Nat)
    (hl : (Instr.lookup 71 (.map (some M)) (.string (bstr n)) false).run Try.prog w = .ok (ptrV o) w) :
    Calls Try.prog 42 #[.pointer (some ⟨b, 0, none⟩), .string (bstr n)] w (POpen o 0 fun w' => w = w') := by
  have ks : (bstr n).toList.isEmpty = false := by rw [bstr_toList]; simpa using hn
  go_enter Try.func42, Try.ntmps42
  go_wp2
  go_ret2
  exact ⟨rfl, rfl⟩

/-- What 'open' finds. -/
def openB (d : AD) (rs : List FR) (n : Bs) : Option Nat := if d.openE n = 0 then findB (rs.map FR.nb) n else none

theorem open_disk (h : H W w (dhdr b M d :: SM :: frs rs :: L)) (hm : MapS Try.prog 9 M (rs.map FR.nb) SM) (hn : n.length ≤ maxLen) :
    Calls Try.prog 42 #[.pointer (some ⟨b, 0, none⟩), .string (bstr n)] w (POpen (openB d rs n) (d.openE n) fun w' => w = w') := by
  unfold openB AD.openE
  by_cases h0 : n = []
  · subst h0; exact open_empty b w
  · by_cases h1 : d.off = true
    · rw [if_neg h0, if_pos h1]; exact open_off n h0 b w (by have := h.cellAt 0 0 1 rfl rfl (v := .bool d.off) rfl; rw [h1] at this; exact this)
    · rw [if_neg h0, if_neg h1]
      refine open_on n h0 b w (h.cellAt 0 0 0 rfl rfl rfl) (by have := h.cellAt 0 0 1 rfl rfl (v := .bool d.off) rfl; simp only [h1] at this; exact this) _ ?_
      exact (h.pick 1 rfl).mapLook Try.underlying9 Try.underlying71 (zero75 w) hm n hn

theorem find_asF (rs : List FR) (n : Bs) (hfs : rs.map FR.a = d.fs) : (d.find n).isNone = (findB (rs.map FR.nb) n).isNone := by
  unfold AD.find findB
  rw [← hfs]
  simp only [Option.isNone_map, List.find?_map]
  rfl

/-- What 'existing' finds. -/
theorem exist_disk (h : H W w (dhdr b M d :: SM :: frs rs :: L)) (hm : MapS Try.prog 9 M (rs.map FR.nb) SM) (hfs : rs.map FR.a = d.fs) (hn : n.length ≤ maxLen) :
    Calls Try.prog 45 #[.pointer (some ⟨b, 0, none⟩), .string (bstr n)] w (POpen (openB d rs n) (d.existE n) fun w' => w = w') := by
  have hf := find_asF rs n hfs
  have hop := open_disk h hm hn
  have h1 : d.existE n = if d.openE n = 0 then (if (openB d rs n).isNone then 6 else 0) else d.openE n := by
    unfold AD.existE openB AD.openE
    by_cases h0 : n = [] <;> by_cases h1 : d.off = true <;> simp [h0, h1, hf]
  rw [h1]
  have h2 : d.openE n ≠ 0 → openB d rs n = none := by intro h; unfold openB; rw [if_neg h]
  generalize d.openE n = c at *
  generalize openB d rs n = o at *
  clear hf hfs h1 h hm
  by_cases hc : c = 0
  · subst hc
    clear h2
    cases o with
    | none =>
      go_enter Try.func45, Try.ntmps45
      go_wp2_with (go_at_call 42; refine hop.mono ?_; rintro e w1 ⟨rfl, rfl⟩; unfold ptrV)
      go_ret2
      exact ⟨rfl, rfl⟩
    | some x =>
      go_enter Try.func45, Try.ntmps45
      go_wp2_with (go_at_call 42; refine hop.mono ?_; rintro e w1 ⟨rfl, rfl⟩; unfold ptrV)
      go_ret2
      exact ⟨rfl, rfl⟩
  · rw [h2 hc] at hop
    rw [h2 hc, if_neg hc]
    have hc' : (c == 0) = false := by simpa using hc
    clear h2
    go_enter Try.func45, Try.ntmps45
    go_wp2_with (go_at_call 42; refine hop.mono ?_; rintro e w1 ⟨rfl, rfl⟩; unfold ptrV)
    go_ret2
    exact ⟨rfl, rfl⟩
end Go.Proofs.Ytfhoblchgeijkaa
