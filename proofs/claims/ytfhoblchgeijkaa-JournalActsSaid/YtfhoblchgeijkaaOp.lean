import Derived.Test.YtfhoblchgeijkaaQ
import Derived.SizedLaws
import Derived.WalkKit
import Derived.ProofKit
import Derived.OpenShut
import Derived.ShutString
import Derived.ChangeOld
import Derived.Below
namespace Go.Proofs.Ytfhoblchgeijkaa
open Go.ChangeShapes Go.WideShapes Go.ChangeAt Go.RowKit
variable {H' : Type} {enc : TypeId × Value → H'} {W : World} {sp : Nat → Bool} {fuel : Nat}

theorem pc3 : Try.prog.cellsOf 3 = 1 := by kernel_rfl
theorem pc5 : Try.prog.cellsOf 5 = 1 := by kernel_rfl
theorem pc27 : Try.prog.cellsOf 27 = 1 := by kernel_rfl

theorem add_eq {g o k : Nat} : (⟨g, o, none⟩ : Addr).add k = ⟨g, o + k, none⟩ := by
  simp only [Addr.add]
  split
  · rename_i h; simp_all
  · rfl
theorem addr_none {w : World} {a : Addr} {v : Value} (h : w.cell? a = some v) : ∃ g o c E fr, a = ⟨g, o, none⟩ ∧ w.heap[g]? = some (.cells c E fr) ∧ c[o]? = some v := by
  obtain ⟨g, o, s⟩ := a
  unfold World.cell? at h
  split at h
  · rename_i c E fr hb
    cases s with
    | none => exact ⟨g, o, c, E, fr, rfl, hb, h⟩
    | some q => simp at h
  · simp at h

/-- A row whose cells are known one by one. -/
theorem rs_of_cells {a : Addr} {cap : Nat} {xs : List Value} (h : ∀ i u, xs[i]? = some u → W.cell? (a.add i) = some u) : RS [old W] 1 (.slice (some a) xs.length cap) xs.length xs := by
  refine ⟨by simp, ?_⟩
  by_cases h0 : xs.length = 0
  · exact .inl ⟨h0, some a, cap, by rw [h0]⟩
  · right
    have e0 : a.add 0 = a := by simp [Addr.add]
    have c0 := h 0 (xs[0]'(by omega)) (by simp)
    rw [e0] at c0
    obtain ⟨g, o, c, E, fr, rfl, hb, _⟩ := addr_none c0
    refine ⟨g, o, cap, c, E, fr, rfl, by simp only [List.flatten_cons, List.flatten_nil, List.append_nil]; exact mem_old.2 hb, fun j u hu => ?_⟩
    have hcj := h j u hu
    rw [add_eq] at hcj
    simpa [World.cell?, hb] using hcj

/-- The bytes of a slice that came in. -/
theorem open_bytes {v : Value} {x : DataW H' × List MemPlace} (h : DataW.trod enc Try.prog W 0 sp true fuel 27 [v] = some x) :
    ∃ A c d, v = .slice A (d : List UInt8).length c ∧ RS [old W] 1 (.slice A d.length c) d.length (u8s d) := by
  rcases open_ints Try.underlying27 Try.underlying5 pc5 h with ⟨hcs, _⟩ | ⟨a, len, cap, zs, hcs, _, hl, hm, hz, hx, hcell, hwz⟩
  · obtain rfl : v = .slice none 0 0 := by simpa using hcs
    exact ⟨none, 0, [], rfl, by simp [u8s], .inl ⟨rfl, none, 0, rfl⟩⟩
  · obtain rfl : v = .slice (some a) len cap := by simpa using hcs
    have hzl : len ≤ zs.length := by rw [hz]; split <;> omega
    have hlen : (u8s ((zs.take len).map fun n => UInt8.ofNat n.toNat)).length = len := by simp [u8s]; omega
    have hlen2 : ((zs.take len).map fun n => UInt8.ofNat n.toNat).length = len := by simp; omega
    refine ⟨some a, cap, (zs.take len).map fun n => UInt8.ofNat n.toNat, by rw [hlen2], ?_⟩
    have key := rs_of_cells (W := W) (a := a) (cap := cap) (xs := u8s ((zs.take len).map fun n => UInt8.ofNat n.toNat)) (fun j u hu => by
      have hj : j < len := by have := (List.getElem?_eq_some_iff.1 hu).1; omega
      have hcj := hcell j (by omega)
      rw [hcj]
      have hw := hwz (zs.getD j 0) (by
        have : zs.getD j 0 = zs[j]'(by omega) := by simp [List.getD, show j < zs.length by omega]
        rw [this]; exact List.getElem_mem _)
      have hz2 : 0 ≤ zs.getD j 0 ∧ zs.getD j 0 ≤ 255 := by
        simpa [Lit.wf, IntKind.min, IntKind.max, IntKind.signed, IntKind.bits] using hw
      have : (u8s ((zs.take len).map fun n => UInt8.ofNat n.toNat))[j]? = some (.int .u8 ((UInt8.ofNat (zs.getD j 0).toNat).toNat : Int)) := by
        simp [u8s, List.getD, hj, show j < zs.length by omega]
      rw [this] at hu
      have key : zs.getD j 0 = ((UInt8.ofNat (zs.getD j 0).toNat).toNat : Int) := by
        generalize zs.getD j 0 = z at hz2
        obtain ⟨m, rfl⟩ := Int.eq_ofNat_of_zero_le hz2.1
        rw [Int.toNat_natCast, UInt8.toNat_ofNat']
        omega
      rw [← key] at hu
      exact hu)
    rw [hlen] at key
    rw [hlen2]
    exact key

/-- The integers of a slice that came in. -/
theorem open_i64s {v : Value} {x : DataW H' × List MemPlace} (h : DataW.trod enc Try.prog W 0 sp true fuel 23 [v] = some x) :
    ∃ A c ps, v = .slice A (ps : List Int).length c ∧ ps.length ≤ c ∧ RS [old W] 1 (.slice A ps.length c) ps.length (i64s ps) ∧ ∀ p ∈ ps, InI p := by
  rcases open_ints Try.underlying23 Try.underlying3 pc3 h with ⟨hcs, _⟩ | ⟨a, len, cap, zs, hcs, _, hl, hm, hz, hx, hcell, hwz⟩
  · obtain rfl : v = .slice none 0 0 := by simpa using hcs
    exact ⟨none, 0, [], rfl, by simp, ⟨by simp [i64s], .inl ⟨rfl, none, 0, rfl⟩⟩, by simp⟩
  · obtain rfl : v = .slice (some a) len cap := by simpa using hcs
    have hzl : len ≤ zs.length := by rw [hz]; split <;> omega
    have hlen2 : (zs.take len).length = len := by simp; omega
    have hlen : (i64s (zs.take len)).length = len := by rw [i64s_len, hlen2]
    refine ⟨some a, cap, zs.take len, by rw [hlen2], by rw [hlen2]; exact hl, ?_, ?_⟩
    · have key := rs_of_cells (W := W) (a := a) (cap := cap) (xs := i64s (zs.take len)) (fun j u hu => by
        have hj : j < len := by have := (List.getElem?_eq_some_iff.1 hu).1; omega
        have hcj := hcell j (by omega)
        rw [hcj]
        have : (i64s (zs.take len))[j]? = some (.int .i64 (zs.getD j 0)) := by
          simp [i64s, List.getD, hj, show j < zs.length by omega]
        rw [this] at hu
        exact hu)
      rw [hlen] at key
      rw [hlen2]
      exact key
    · intro p hp
      have := hwz p (List.mem_of_mem_take hp)
      have h2 : -9223372036854775808 ≤ p ∧ p ≤ 9223372036854775807 := by
        simpa [Lit.wf, IntKind.min, IntKind.max, IntKind.signed, IntKind.bits] using this
      unfold InI; omega

/-- A list of byte strings, each a value and what it reads as. -/
abbrev VB := Value × Bs
def VB.ok (L : List Seg) (x : VB) : Prop := ∃ A c, x.1 = .slice A x.2.length c ∧ RS L 1 (.slice A x.2.length c) x.2.length (u8s x.2)

theorem list_of {α : Type} {P : Nat → α → Prop} : ∀ n : Nat, (∀ i, i < n → ∃ a, P i a) → ∃ l : List α, l.length = n ∧ ∀ i (h : i < l.length), P i l[i]
  | 0, _ => ⟨[], rfl, fun i h => by simp at h⟩
  | n + 1, h => by
    obtain ⟨l, h1, h2⟩ := list_of n fun i hi => h i (by omega)
    obtain ⟨a, ha⟩ := h n (by omega)
    refine ⟨l ++ [a], by simp [h1], fun i hi => ?_⟩
    by_cases hil : i < l.length
    · rw [List.getElem_append_left hil]; exact h2 i hil
    · have : i = l.length := by simp at hi; omega
      subst this
      rw [List.getElem_append_right (by omega)]
      simpa [h1] using ha

/-- The byte strings of a slice that came in. -/
theorem open_rows {v : Value} {x : DataW H' × List MemPlace} (h : DataW.trod enc Try.prog W 0 sp true fuel 22 [v] = some x) :
    ∃ A c ls, v = .slice A (ls : List VB).length c ∧ RS [old W] 1 (.slice A ls.length c) ls.length (ls.map Prod.fst) ∧ ∀ y ∈ ls, VB.ok [old W] y := by
  rcases DataW.trod_slice Try.underlying22 h with ⟨hcs, _⟩ | ⟨a, len, cap, elems, rest, n, _, hcs, _, hb, hl, hm, hlen, hel, _, _⟩
  · obtain rfl : v = .slice none 0 0 := by simpa using hcs
    exact ⟨none, 0, [], rfl, ⟨by simp, .inl ⟨rfl, none, 0, rfl⟩⟩, by simp⟩
  · obtain rfl : v = .slice (some a) len cap := by simpa using hcs
    have h2 : ∀ i, i < len → ∃ y : VB, W.cell? (a.add i) = some y.1 ∧ VB.ok [old W] y := fun i hi => by
      have he := hel i hi
      rw [pc27, List.getElem?_eq_getElem (by omega), Option.bind_eq_some_iff] at he
      obtain ⟨cs, hc1, hc2⟩ := he
      obtain ⟨_, hc4, hc3⟩ := World.cells?_some hc1
      match cs, hc4 with
      | [cv], _ =>
        obtain ⟨A, c, d, rfl, hr⟩ := open_bytes hc2
        have := hc3 0 (by decide)
        rw [Nat.mul_one] at this
        have e0 : ∀ a : Addr, a.add 0 = a := fun a => by simp [Addr.add]
        rw [e0] at this
        exact ⟨(_, d), this, A, c, rfl, hr⟩
    obtain ⟨ls, hl1, hl2⟩ := list_of len h2
    refine ⟨some a, cap, ls, by rw [hl1], ?_, ?_⟩
    · have key := rs_of_cells (W := W) (a := a) (cap := cap) (xs := ls.map Prod.fst) (fun j u hu => by
        have hj : j < ls.length := by have := (List.getElem?_eq_some_iff.1 hu).1; simpa using this
        have := (hl2 j hj).1
        rw [this]
        simpa [hj] using hu)
      rw [List.length_map] at key
      exact key
    · intro y hy
      obtain ⟨i, hi, rfl⟩ := List.getElem_of_mem hy
      exact (hl2 i hi).2
end Go.Proofs.Ytfhoblchgeijkaa
