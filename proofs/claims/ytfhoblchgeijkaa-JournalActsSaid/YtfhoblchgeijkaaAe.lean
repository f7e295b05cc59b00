import Derived.Test.YtfhoblchgeijkaaAd
import Derived.Test.YtfhoblchgeijkaaSf
set_option linter.unusedVariables false
set_option linter.unusedSimpArgs false
namespace Go.Proofs.Ytfhoblchgeijkaa
open Go.ChangeShapes Go.WideShapes Go.ChangeAt Go.RowKit
variable {H' : Type} {enc : TypeId × Value → H'} {W : World} {sp : Nat → Bool} {fuel : Nat}

theorem pc60 : Try.prog.cellsOf 60 = 4 := by kernel_rfl

set_option maxRecDepth 100000 in
/-- The cells of an act that came in. -/
theorem open_jact {cs : List Value} {x : DataW H' × List MemPlace} (h : DataW.trod enc Try.prog W 0 sp true fuel 60 cs = some x) :
    ∃ y : JV, cs = y.cells ∧ y.ok [old W] := by
  obtain ⟨xs, n, _, _, hlen, hxs, hf⟩ := DataW.trod_struct Try.underlying60 h
  rw [pc60] at hlen
  match cs, hlen with
  | [c0, c1, c2, c3], _ =>
    have hs : ∀ i, i < 4 → ∃ y, xs[i]? = some y := fun i hi => ⟨_, List.getElem?_eq_getElem (by rw [hxs]; exact hi)⟩
    obtain ⟨y0, hy0⟩ := hs 0 (by decide)
    obtain ⟨y1, hy1⟩ := hs 1 (by decide)
    obtain ⟨y2, hy2⟩ := hs 2 (by decide)
    obtain ⟨y3, hy3⟩ := hs 3 (by decide)
    have f0 : DataW.trod enc Try.prog W 0 sp true n 3 (([c0, c1, c2, c3].drop 0).take (Try.prog.cellsOf 3)) = xs[0]? := hf 0 _ rfl
    rw [pc3, hy0] at f0
    have f1 : DataW.trod enc Try.prog W 0 sp true n 27 (([c0, c1, c2, c3].drop 1).take (Try.prog.cellsOf 27)) = xs[1]? := hf 1 _ rfl
    rw [pc27, hy1] at f1
    have f2 : DataW.trod enc Try.prog W 0 sp true n 3 (([c0, c1, c2, c3].drop 2).take (Try.prog.cellsOf 3)) = xs[2]? := hf 2 _ rfl
    rw [pc3, hy2] at f2
    have f3 : DataW.trod enc Try.prog W 0 sp true n 23 (([c0, c1, c2, c3].drop 3).take (Try.prog.cellsOf 23)) = xs[3]? := hf 3 _ rfl
    rw [pc23, hy3] at f3
    simp only [List.drop_zero, List.take_succ_cons, List.take_zero, List.drop_succ_cons] at f0 f1 f2 f3
    obtain ⟨a0, h0, _, _⟩ := DataW.trod_int Try.underlying3 f0
    obtain ⟨A3, k3, d3, h3, r3⟩ := open_bytes f1
    obtain ⟨a4, h4, _, w4⟩ := DataW.trod_int Try.underlying3 f2
    obtain ⟨A5, k5, ps, h5, r5, r6, r7⟩ := open_i64s f3
    simp only [List.cons.injEq, and_true] at h0 h4
    subst h0 h4 h3 h5
    refine ⟨⟨a0, (.slice A3 d3.length k3, d3), a4, (.slice A5 ps.length k5, ps)⟩, rfl, ⟨⟨A3, k3, rfl, r3⟩, ⟨A5, k5, rfl, r5, r6⟩, r7, ?_⟩⟩
    have : -9223372036854775808 ≤ a4 ∧ a4 ≤ 9223372036854775807 := by
      simpa [Lit.wf, IntKind.min, IntKind.max, IntKind.signed, IntKind.bits] using w4
    show InI a4
    unfold InI; omega

/-- The acts of a slice that came in. -/
theorem open_jacts {v : Value} {x : DataW H' × List MemPlace} (h : DataW.trod enc Try.prog W 0 sp true fuel 52 [v] = some x) :
    ∃ A c xs, v = .slice A (xs : List JV).length c ∧ JArg [old W] A c xs := by
  rcases DataW.trod_slice Try.underlying52 h with ⟨hcs, _⟩ | ⟨a, len, cap, elems, rest, n, _, hcs, _, hb, hl, hm, hlen, hel, _, _⟩
  · obtain rfl : v = .slice none 0 0 := by simpa using hcs
    exact ⟨none, 0, [], rfl, ⟨by simp, .inl ⟨rfl, none, 0, rfl⟩⟩, by simp⟩
  · obtain rfl : v = .slice (some a) len cap := by simpa using hcs
    have h2 : ∀ i, i < len → ∃ y : JV, (∀ j, j < 4 → W.cell? ((a.add (i * 4)).add j) = (y.cells)[j]?) ∧ y.ok [old W] := fun i hi => by
      have he := hel i hi
      rw [pc60, List.getElem?_eq_getElem (by omega), Option.bind_eq_some_iff] at he
      obtain ⟨cs, hc1, hc2⟩ := he
      obtain ⟨_, _, hc3⟩ := World.cells?_some hc1
      obtain ⟨y, rfl, hy⟩ := open_jact hc2
      exact ⟨y, hc3, hy⟩
    obtain ⟨xs, hl1, hl2⟩ := list_of len h2
    refine ⟨some a, cap, xs, by rw [hl1], ?_, fun y hy => ?_⟩
    · have hfl : ∀ l : List JV, (l.flatMap JV.cells).length = l.length * 4 := fun l => by
        induction l with
        | nil => rfl
        | cons r l ih => simp only [List.flatMap_cons, List.length_append, ih, List.length_cons, JV.cells]; simp; omega
      refine ⟨hfl xs, ?_⟩
      by_cases h0 : xs.length = 0
      · exact .inl ⟨h0, some a, cap, by rw [h0]⟩
      · right
        have e0 : ∀ a : Addr, a.add 0 = a := fun a => by simp [Addr.add]
        have c0 := (hl2 0 (by omega)).1 0 (by decide)
        rw [Nat.zero_mul, e0, e0] at c0
        obtain ⟨g, o, c, E, fr, rfl, hb, _⟩ := addr_none c0
        refine ⟨g, o, cap, c, E, fr, rfl, by simp only [List.flatten_cons, List.flatten_nil, List.append_nil]; exact mem_old.2 hb, fun j u hu => ?_⟩
        have hj : j < xs.length * 4 := by have := (List.getElem?_eq_some_iff.1 hu).1; rw [hfl] at this; exact this
        have hq : j / 4 < xs.length := by omega
        have hj2 : j = j / 4 * 4 + j % 4 := by omega
        have hc := (hl2 (j / 4) hq).1 (j % 4) (by omega)
        rw [add_eq, add_eq, Nat.add_assoc, ← hj2] at hc
        rw [hj2, jflat_get xs (j / 4) hq (j % 4) (by omega)] at hu
        rw [hu] at hc
        simpa [World.cell?, hb] using hc
    · obtain ⟨i, hi, rfl⟩ := List.getElem_of_mem hy
      exact (hl2 i hi).2
end Go.Proofs.Ytfhoblchgeijkaa
