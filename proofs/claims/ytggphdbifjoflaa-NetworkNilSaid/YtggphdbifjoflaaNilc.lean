/- For every call record: the call of NetworkNil returns true, and its argument reads afterwards as it read before. No condition. -/
import Derived.Test.YtggphdbifjoflaaV
import Derived.ProofKit
import Derived.OpenShut
import Derived.ShutString
import Derived.ChangeOld
import Derived.Below
namespace Go.Proofs.Ytggphdbifjoflaa.networkNil
open Go.ChangeShapes Go.WideShapes Go.ChangeAt Go.RowKit

theorem own : ownKnob Try.prog.godebug = none := by kernel_rfl
theorem laidOut : laidOutB Try.prog = true := by kernel_rfl
theorem cells41 : Try.prog.cellsOf 41 = 8 := by kernel_rfl
theorem types41 : Try.prog.cellTypes Try.prog.depth 41 = some [3, 3, 3, 3, 5, 3, 3, 22] := by kernel_rfl

theorem shape41 {W : World} {base : Nat} {v : Value} (h : Value.okWide Try.prog W .any base 41 v) :
    ∃ a0 a1 a2 a3 a4 a5 a6 A n c, v = .agg #[.int .i64 a0, .int .i64 a1, .int .i64 a2, .int .i64 a3, .int .u8 a4, .int .i64 a5, .int .i64 a6, .slice A n c] := by
  simp only [Value.okWide, Try.underlying41] at h
  obtain ⟨cs, rfl, hsz, ts, hts, _, hcell⟩ := h
  rw [types41] at hts
  obtain rfl := Option.some.inj hts
  rw [cells41] at hsz
  obtain ⟨l, rfl⟩ : ∃ l : List Value, cs = l.toArray := ⟨cs.toList, by simp⟩
  match l, hsz with
  | [c0, c1, c2, c3, c4, c5, c6, c7], _ =>
    have cell : ∀ (i : Nat) (c : Value) (u : TypeId), ([c0, c1, c2, c3, c4, c5, c6, c7] : List Value)[i]? = some c → ([3, 3, 3, 3, 5, 3, 3, 22] : List Nat)[i % 8]? = some u → Cell.okWide Try.prog W .any base u c := by
      intro i c u hi hu
      obtain ⟨u', hu', hok⟩ := hcell i c (by simpa using hi)
      rw [show ([3, 3, 3, 3, 5, 3, 3, 22] : List Nat).length = 8 from rfl, hu] at hu'
      obtain rfl := Option.some.inj hu'
      exact hok
    have i3 : ∀ c, Cell.okWide Try.prog W .any base 3 c → ∃ a, c = .int .i64 a := fun c hc => okWide_int Try.underlying3 (show Value.okWide Try.prog W .any base 3 c by simp only [Value.okWide, Try.underlying3]; exact hc)
    obtain ⟨a0, rfl⟩ := i3 c0 (cell 0 c0 3 rfl rfl)
    obtain ⟨a1, rfl⟩ := i3 c1 (cell 1 c1 3 rfl rfl)
    obtain ⟨a2, rfl⟩ := i3 c2 (cell 2 c2 3 rfl rfl)
    obtain ⟨a3, rfl⟩ := i3 c3 (cell 3 c3 3 rfl rfl)
    obtain ⟨a4, rfl⟩ := okWide_int Try.underlying5 (show Value.okWide Try.prog W .any base 5 c4 by simp only [Value.okWide, Try.underlying5]; exact cell 4 c4 5 rfl rfl)
    obtain ⟨a5, rfl⟩ := i3 c5 (cell 5 c5 3 rfl rfl)
    obtain ⟨a6, rfl⟩ := i3 c6 (cell 6 c6 3 rfl rfl)
    obtain ⟨A, n, c, rfl⟩ := okWide_slice Try.underlying22 (show Value.okWide Try.prog W .any base 22 c7 by simp only [Value.okWide, Try.underlying22]; exact cell 7 c7 22 rfl rfl)
    exact ⟨a0, a1, a2, a3, a4, a5, a6, A, n, c, rfl⟩

theorem walk (v : Value) (w : World) (base : Nat) (h : Value.okWide Try.prog w .any base 41 v) :
    Calls Try.prog 5 #[v] w fun e w' => e = .returned (.bool true) ∧ Below w.heap.size w w' := by
  obtain ⟨a0, a1, a2, a3, a4, a5, a6, A, n, c, rfl⟩ := shape41 h
  refine (nil_walk a0 a1 a2 a3 a4 a5 a6 A n c (H.start w)).mono ?_
  rintro e w' ⟨rfl, h⟩
  exact ⟨rfl, h.below (fun p hp => by simpa using hp)⟩

set_option maxRecDepth 100000 in
theorem lifted (os : Os) (started : os.Started) (H : Type) (enc : TypeId × Value → H) :
    ReturnsInHanded {} Try.checked os 5 .any (Rows.networkNilSpec.pre6 enc Try.prog Try.f5 Rows.networkNilRow.domain false) (Rows.networkNilSpec.post enc Try.prog Try.f5 false true false false) := by
  refine returnsInHanded_of_change (C := Try.checked) own started (by kernel_rfl) Try.func5
    (ChangeSpec.witness6 (enc := enc) (C := Try.checked) false ⟨#[], #[.agg #[.int .i64 0, .int .i64 0, .int .i64 0, .int .i64 0, .int .u8 0, .int .i64 0, .int .i64 0, .slice none 0 0]], []⟩ 8 (by kernel_rfl) (by kernel_rfl) (by kernel_rfl) (by kernel_rfl)) ?_
  intro W base args ds gs before hval0 hW hcnd _
  have hval : ∀ (j : Nat) t v, Try.f5.params[j]? = some t → args[j]? = some v → Value.okWide Try.prog W .any base t v := hval0
  have hW' := hW
  obtain ⟨p, q, hA0, hV, rfl, hfz, hnd⟩ := hW
  have hA : DataW.TrodAll enc Try.prog W 0 (fun _ => true) true Try.f5.params.toList args.toList ds p := hA0
  rw [Try.params5] at hA hval
  obtain ⟨v0, vs0, d0, ds0, p0, q0, hargs, rfl, rfl, h0, r0⟩ := trodAll_cons hA
  obtain ⟨rfl, rfl, rfl⟩ := trodAll_nil r0
  obtain rfl : args = #[v0] := by cases args; simp_all
  obtain ⟨rfl, rfl⟩ := trodVars_none hV
  have lt0 : ∀ x ∈ p0, x.block < W.heap.size := by obtain ⟨m, hm⟩ := h0; exact DataW.trod_lt m _ _ _ hm
  have hv := hval 0 41 v0 rfl rfl
  clear hA0 hval0
  refine (walk v0 W base hv).mono fun e W' ⟨he, bel⟩ => ?_
  subst he
  exact ⟨_, rfl, _, _, _, [], _, [], hW', trodAll_mk1 (shut_bool Try.underlying4 _), (trodAll_cons_mk (Below.trod laidOut (by kernel_rfl) (of_decide_eq_true (by kernel_rfl)) h0 bel lt0) trodAll_mk0), rfl, bel.frame _, fun h => by cases h⟩

theorem over : Rows.networkNilRow.holds Try.pinned (OpenSpec.ofChange Rows.networkNilSpec) :=
  OpenClaim.holds_of_wide 5 Try.f5 rfl rfl rfl rfl rfl rfl rfl ⟨rfl, rfl, rfl, rfl, rfl⟩ rfl rfl rfl rfl rfl (by kernel_rfl) Try.func5 (by kernel_rfl)
    (of_decide_eq_true (by kernel_rfl)) (by unfold Func.isWrapper; first | (rw [if_pos (by decide +kernel)]; kernel_rfl) | (rw [if_neg (by decide +kernel)]; exact ⟨rfl, rfl⟩))
    (fun os started H enc _ => lifted os started H enc)

/-- THE STATEMENT -/
theorem proved : Rows.NetworkNilSaid := over
end Go.Proofs.Ytggphdbifjoflaa.networkNil
