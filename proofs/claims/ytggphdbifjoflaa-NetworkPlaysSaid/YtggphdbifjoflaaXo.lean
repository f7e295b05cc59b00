import Derived.Test.YtggphdbifjoflaaXi
import Derived.SizedLaws
import Derived.WalkKit
import Derived.ProofKit
import Derived.OpenShut
import Derived.ShutString
import Derived.ChangeOld
import Derived.Below
namespace Go.Proofs.Ytggphdbifjoflaa
open Go.ChangeShapes Go.WideShapes Go.ChangeAt Go.RowKit
variable {H' : Type} {enc : TypeId × Value → H'} {W : World} {sp : Nat → Bool} {fuel : Nat}

theorem pc3 : Try.prog.cellsOf 3 = 1 := by kernel_rfl
theorem pc5 : Try.prog.cellsOf 5 = 1 := by kernel_rfl
theorem pc22 : Try.prog.cellsOf 22 = 1 := by kernel_rfl
theorem pc30 : Try.prog.cellsOf 30 = 3 := by kernel_rfl
theorem pc41 : Try.prog.cellsOf 41 = 8 := by kernel_rfl

theorem add_eq {g o k : Nat} : (⟨g, o, none⟩ : Addr).add k = ⟨g, o + k, none⟩ := by
  simp only [Addr.add]
  split
  · rename_i h; simp_all
  · rfl
theorem addr_none {w : World} {a : Addr} {v : Value} (h : w.cell? a = some v) : ∃ g o c E fr, a = ⟨g, o, none⟩ ∧ w.heap[g]? = some (.cells c E fr) ∧ c[o]? = some v := by
  obtain ⟨g, o, s⟩ := a
  unfold World.cell? at h
  split at h
  · rename_i c E fr hb
    cases s with
    | none => exact ⟨g, o, c, E, fr, rfl, hb, h⟩
    | some q => simp at h
  · simp at h

/-- The bytes of a slice that came in. -/
theorem open_bytes {v : Value} {x : DataW H' × List MemPlace} (h : DataW.trod enc Try.prog W 0 sp true fuel 22 [v] = some x) :
    ∃ A c d, v = .slice A (d : List UInt8).length c ∧ RS [old W] 1 (.slice A d.length c) d.length (u8s d) := by
  rcases open_ints Try.underlying22 Try.underlying5 pc5 h with ⟨hcs, _⟩ | ⟨a, len, cap, zs, hcs, _, hl, hm, hz, hx, hcell, hwz⟩
  · obtain rfl : v = .slice none 0 0 := by simpa using hcs
    exact ⟨none, 0, [], rfl, by simp [u8s], .inl ⟨rfl, none, 0, rfl⟩⟩
  · obtain rfl : v = .slice (some a) len cap := by simpa using hcs
    have hzl : len ≤ zs.length := by rw [hz]; split <;> omega
    have hlen : ((zs.take len).map fun n => UInt8.ofNat n.toNat).length = len := by simp; omega
    refine ⟨some a, cap, (zs.take len).map fun n => UInt8.ofNat n.toNat, by rw [hlen], ?_⟩
    refine ⟨by rw [u8s_len, Nat.mul_one], ?_⟩
    rw [hlen]
    by_cases h0 : len = 0
    · exact .inl ⟨h0, some a, cap, by rw [h0]⟩
    · right
      have e0 : a.add 0 = a := by simp [Addr.add]
      have c0 := hcell 0 (by omega)
      rw [e0] at c0
      obtain ⟨g, o, c, E, fr, rfl, hb, _⟩ := addr_none c0
      refine ⟨g, o, cap, c, E, fr, rfl, by simp only [List.flatten_cons, List.flatten_nil, List.append_nil]; exact mem_old.2 hb, fun j u hu => ?_⟩
      have hj : j < len := by
        have := (List.getElem?_eq_some_iff.1 hu).1
        simpa [u8s, Nat.min_eq_left hzl] using this
      have hcj := hcell j (by omega)
      rw [add_eq] at hcj
      have hcj2 : c[o + j]? = some (.int .u8 (zs.getD j 0)) := by simpa [World.cell?, hb] using hcj
      rw [hcj2]
      have hw := hwz (zs.getD j 0) (by
        have : zs.getD j 0 = zs[j]'(by omega) := by simp [List.getD, show j < zs.length by omega]
        rw [this]; exact List.getElem_mem _)
      have hz2 : 0 ≤ zs.getD j 0 ∧ zs.getD j 0 ≤ 255 := by
        simpa [Lit.wf, IntKind.min, IntKind.max, IntKind.signed, IntKind.bits] using hw
      have : (u8s ((zs.take len).map fun n => UInt8.ofNat n.toNat))[j]? = some (.int .u8 ((UInt8.ofNat (zs.getD j 0).toNat).toNat : Int)) := by
        simp [u8s, List.getD, hj, show j < zs.length by omega]
      rw [this] at hu
      have key : zs.getD j 0 = ((UInt8.ofNat (zs.getD j 0).toNat).toNat : Int) := by
        generalize zs.getD j 0 = z at hz2
        obtain ⟨m, rfl⟩ := Int.eq_ofNat_of_zero_le hz2.1
        rw [Int.toNat_natCast, UInt8.toNat_ofNat']
        omega
      rw [← key] at hu
      exact hu

/-- The cells of a call record that came in. -/
theorem open_call {cs : List Value} {x : DataW H' × List MemPlace} (h : DataW.trod enc Try.prog W 0 sp true fuel 41 cs = some x) :
    ∃ (a0 a1 a2 a3 : Int) (a4 : UInt8) (f t : Int) (A : Option Addr) (c : Nat) (d : List UInt8), cs = [.int .i64 a0, .int .i64 a1, .int .i64 a2, .int .i64 a3, .int .u8 a4.toNat, .int .i64 f, .int .i64 t, .slice A d.length c] ∧
      RS [old W] 1 (.slice A d.length c) d.length (u8s d) := by
  obtain ⟨xs, n, _, _, hlen, hxs, hf⟩ := DataW.trod_struct Try.underlying41 h
  rw [pc41] at hlen
  match cs, hlen with
  | [c0, c1, c2, c3, c4, c5, c6, c7], _ =>
    have hs : ∀ i, i < 6 → ∃ y, xs[i]? = some y := fun i hi => ⟨_, List.getElem?_eq_getElem (by rw [hxs]; exact hi)⟩
    obtain ⟨y0, hy0⟩ := hs 0 (by decide)
    obtain ⟨y1, hy1⟩ := hs 1 (by decide)
    obtain ⟨y2, hy2⟩ := hs 2 (by decide)
    obtain ⟨y3, hy3⟩ := hs 3 (by decide)
    obtain ⟨y4, hy4⟩ := hs 4 (by decide)
    obtain ⟨y5, hy5⟩ := hs 5 (by decide)
    have f0 : DataW.trod enc Try.prog W 0 sp true n 3 (([c0, c1, c2, c3, c4, c5, c6, c7].drop 0).take (Try.prog.cellsOf 3)) = xs[0]? := hf 0 _ rfl
    rw [pc3, hy0] at f0
    have f1 : DataW.trod enc Try.prog W 0 sp true n 3 (([c0, c1, c2, c3, c4, c5, c6, c7].drop 1).take (Try.prog.cellsOf 3)) = xs[1]? := hf 1 _ rfl
    rw [pc3, hy1] at f1
    have f2 : DataW.trod enc Try.prog W 0 sp true n 3 (([c0, c1, c2, c3, c4, c5, c6, c7].drop 2).take (Try.prog.cellsOf 3)) = xs[2]? := hf 2 _ rfl
    rw [pc3, hy2] at f2
    have f3 : DataW.trod enc Try.prog W 0 sp true n 3 (([c0, c1, c2, c3, c4, c5, c6, c7].drop 3).take (Try.prog.cellsOf 3)) = xs[3]? := hf 3 _ rfl
    rw [pc3, hy3] at f3
    have f4 : DataW.trod enc Try.prog W 0 sp true n 5 (([c0, c1, c2, c3, c4, c5, c6, c7].drop 4).take (Try.prog.cellsOf 5)) = xs[4]? := hf 4 _ rfl
    rw [pc5, hy4] at f4
    have f5 : DataW.trod enc Try.prog W 0 sp true n 30 (([c0, c1, c2, c3, c4, c5, c6, c7].drop 5).take (Try.prog.cellsOf 30)) = xs[5]? := hf 5 _ rfl
    rw [pc30, hy5] at f5
    simp only [List.drop_zero, List.take_succ_cons, List.take_zero, List.drop_succ_cons] at f0 f1 f2 f3 f4 f5
    obtain ⟨a0, h0, _, _⟩ := DataW.trod_int Try.underlying3 f0
    obtain ⟨a1, h1, _, _⟩ := DataW.trod_int Try.underlying3 f1
    obtain ⟨a2, h2, _, _⟩ := DataW.trod_int Try.underlying3 f2
    obtain ⟨a3, h3, _, _⟩ := DataW.trod_int Try.underlying3 f3
    obtain ⟨a4, h4, _, w4⟩ := DataW.trod_int Try.underlying5 f4
    obtain ⟨zs, m, _, _, _, hzs, hg⟩ := DataW.trod_struct Try.underlying30 f5
    have hs2 : ∀ i, i < 3 → ∃ y, zs[i]? = some y := fun i hi => ⟨_, List.getElem?_eq_getElem (by rw [hzs]; exact hi)⟩
    obtain ⟨z0, hz0⟩ := hs2 0 (by decide)
    obtain ⟨z1, hz1⟩ := hs2 1 (by decide)
    obtain ⟨z2, hz2⟩ := hs2 2 (by decide)
    have g0 : DataW.trod enc Try.prog W 0 sp true m 3 (([c5, c6, c7].drop 0).take (Try.prog.cellsOf 3)) = zs[0]? := hg 0 _ rfl
    rw [pc3, hz0] at g0
    have g1 : DataW.trod enc Try.prog W 0 sp true m 3 (([c5, c6, c7].drop 1).take (Try.prog.cellsOf 3)) = zs[1]? := hg 1 _ rfl
    rw [pc3, hz1] at g1
    have g2 : DataW.trod enc Try.prog W 0 sp true m 22 (([c5, c6, c7].drop 2).take (Try.prog.cellsOf 22)) = zs[2]? := hg 2 _ rfl
    rw [pc22, hz2] at g2
    simp only [List.drop_zero, List.take_succ_cons, List.take_zero, List.drop_succ_cons] at g0 g1 g2
    obtain ⟨b0, k0, _, _⟩ := DataW.trod_int Try.underlying3 g0
    obtain ⟨b1, k1, _, _⟩ := DataW.trod_int Try.underlying3 g1
    obtain ⟨A, c, d, k2, k3⟩ := open_bytes g2
    simp only [List.cons.injEq, and_true] at h0 h1 h2 h3 h4 k0 k1
    subst h0 h1 h2 h3 h4 k0 k1 k2
    have hw : 0 ≤ a4 ∧ a4 ≤ 255 := by
      simpa [Lit.wf, IntKind.min, IntKind.max, IntKind.signed, IntKind.bits] using w4
    have key : a4 = ((UInt8.ofNat a4.toNat).toNat : Int) := by
      obtain ⟨m, rfl⟩ := Int.eq_ofNat_of_zero_le hw.1
      rw [Int.toNat_natCast, UInt8.toNat_ofNat']
      omega
    exact ⟨a0, a1, a2, a3, UInt8.ofNat a4.toNat, b0, b1, A, c, d, by rw [← key], k3⟩
end Go.Proofs.Ytggphdbifjoflaa
