import Derived.Test.YtggphdbifjoflaaXo
namespace Go.Proofs.Ytggphdbifjoflaa
open Go.ChangeShapes Go.WideShapes Go.ChangeAt Go.RowKit
variable {H' : Type} {enc : TypeId × Value → H'} {W : World} {sp : Nat → Bool} {fuel : Nat}

/-- The records of a row that came in, one by one: eight cells each. -/
theorem open_calls {v : Value} {x : DataW H' × List MemPlace} (h : DataW.trod enc Try.prog W 0 sp true fuel 37 [v] = some x) :
    (v = .slice none 0 0) ∨ ∃ (a : Addr) (len cap : Nat), v = .slice (some a) len cap ∧ ∀ i, i < len →
      ∃ (a0 a1 a2 a3 : Int) (a4 : UInt8) (f t : Int) (A : Option Addr) (c : Nat) (d : List UInt8),
        (∀ j, j < 8 → W.cell? ((a.add (i * 8)).add j) = ([.int .i64 a0, .int .i64 a1, .int .i64 a2, .int .i64 a3, .int .u8 a4.toNat, .int .i64 f, .int .i64 t, .slice A d.length c] : List Value)[j]?) ∧
        RS [old W] 1 (.slice A d.length c) d.length (u8s d) := by
  rcases DataW.trod_slice Try.underlying37 h with ⟨hcs, _⟩ | ⟨a, len, cap, elems, rest, n, _, hcs, _, hb, hl, hm, hlen, hel, _, _⟩
  · left; simpa using hcs
  · right
    refine ⟨a, len, cap, by simpa using hcs, fun i hi => ?_⟩
    have he := hel i hi
    rw [pc41, List.getElem?_eq_getElem (by omega), Option.bind_eq_some_iff] at he
    obtain ⟨cs, hc1, hc2⟩ := he
    obtain ⟨_, _, hc3⟩ := World.cells?_some hc1
    obtain ⟨a0, a1, a2, a3, a4, f, t, A, c, d, rfl, hr⟩ := open_call hc2
    exact ⟨a0, a1, a2, a3, a4, f, t, A, c, d, hc3, hr⟩
end Go.Proofs.Ytggphdbifjoflaa
