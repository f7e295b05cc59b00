/- For every integer p, every list of call records and every integer i: the call of NetworkPlays returns true, and its arguments read afterwards as they read before. No condition. -/
import Derived.Test.YtggphdbifjoflaaXm
import Derived.Test.YtggphdbifjoflaaXp
namespace Go.Proofs.Ytggphdbifjoflaa.networkPlays
open Go.ChangeShapes Go.WideShapes Go.ChangeAt Go.RowKit

theorem own : ownKnob Try.prog.godebug = none := by kernel_rfl
theorem laidOut : laidOutB Try.prog = true := by kernel_rfl

theorem list_of {α : Type} {P : Nat → α → Prop} : ∀ (n : Nat), (∀ i, i < n → ∃ c, P i c) → ∃ cs : List α, cs.length = n ∧ ∀ i (h : i < cs.length), P i cs[i]
  | 0, _ => ⟨[], rfl, fun i h => absurd h (by simp)⟩
  | n + 1, h => by
    obtain ⟨cs, hl, hc⟩ := list_of n (fun i hi => h i (by omega))
    obtain ⟨c, hcn⟩ := h n (by omega)
    refine ⟨cs ++ [c], by simp [hl], fun i hi => ?_⟩
    rw [List.length_append, List.length_singleton] at hi
    by_cases hin : i < cs.length
    · rw [List.getElem_append_left hin]; exact hc i hin
    · have : i = n := by omega
      subst this
      rw [List.getElem_append_right (by omega)]
      simpa [hl] using hcn

theorem cl_len (cs : List Cl) : (cs.flatMap Cl.cells).length = cs.length * 8 := by
  induction cs with
  | nil => rfl
  | cons c cs ih => rw [List.flatMap_cons, List.length_append, ih, List.length_cons]; simp [Cl.cells]; omega

theorem rows_in {W : World} {a : Addr} {len cap : Nat}
    (h : ∀ i, i < len → ∃ (a0 a1 a2 a3 : Int) (a4 : UInt8) (f t : Int) (A : Option Addr) (c : Nat) (d : List UInt8),
        (∀ j, j < 8 → W.cell? ((a.add (i * 8)).add j) = ([.int .i64 a0, .int .i64 a1, .int .i64 a2, .int .i64 a3, .int .u8 a4.toNat, .int .i64 f, .int .i64 t, .slice A d.length c] : List Value)[j]?) ∧
        RS [old W] 1 (.slice A d.length c) d.length (u8s d)) : ∃ cs, ClRow [old W] (.slice (some a) len cap) len cs := by
  have h2 : ∀ i, i < len → ∃ C : Cl, (∀ j, j < 8 → W.cell? ((a.add (i * 8)).add j) = C.cells[j]?) ∧ RS [old W] 1 (.slice C.A C.p.d.length C.c) C.p.d.length (u8s C.p.d) := fun i hi => by
    obtain ⟨a0, a1, a2, a3, a4, f, t, A, c, d, h1, h2⟩ := h i hi
    exact ⟨⟨a0, a1, a2, a3, a4, ⟨f, t, d⟩, A, c⟩, h1, h2⟩
  obtain ⟨cs, hl, hc⟩ := list_of len h2
  refine ⟨cs, ⟨by rw [cl_len, hl], ?_⟩, hl, fun k hk hle => ?_⟩
  · by_cases h0 : len = 0
    · exact .inl ⟨h0, some a, cap, by rw [h0]⟩
    · right
      have c0 := (hc 0 (by omega)).1 0 (by decide)
      have e0 : (a.add (0 * 8)).add 0 = a := by simp [Addr.add]
      rw [e0] at c0
      obtain ⟨g, o, c, E, fr, rfl, hb, _⟩ := addr_none (v := .int .i64 (cs[0]'(by omega)).op) c0
      refine ⟨g, o, cap, c, E, fr, rfl, by simp only [List.flatten_cons, List.flatten_nil, List.append_nil]; exact mem_old.2 hb, fun j u hu => ?_⟩
      have hj : j < cs.length * 8 := by rw [← cl_len]; exact (List.getElem?_eq_some_iff.1 hu).1
      have hi : j / 8 < cs.length := by omega
      have ej : j / 8 * 8 + j % 8 = j := by omega
      have hg := cl_get cs (j / 8) hi (j % 8) (by omega)
      rw [ej, hu] at hg
      have hcj := (hc (j / 8) hi).1 (j % 8) (by omega)
      rw [← hg, add_eq, add_eq, Nat.add_assoc, ej] at hcj
      simpa [World.cell?, hb] using hcj
  · obtain ⟨i, hi, rfl⟩ := List.getElem_of_mem hk
    exact ⟨by omega, (hc i hi).2⟩

theorem walk (a0 a2 : Int) {v : Value} {n : Nat} {cs : List Cl} (W : World) (h : ClRow [old W] v n cs) :
    Calls Try.prog 4 #[.int .i64 a0, v, .int .i64 a2] W fun e w' => e = .returned (.bool true) ∧ Below W.heap.size W w' := by
  refine (plays_any a0 a2 (H.start W) h).mono ?_
  rintro e w' ⟨rfl, h⟩
  exact ⟨rfl, h.below (fun p hp => by simpa using hp)⟩

set_option maxRecDepth 100000 in
theorem lifted (os : Os) (started : os.Started) (H : Type) (enc : TypeId × Value → H) :
    ReturnsInHanded {} Try.checked os 4 .any (Rows.networkPlaysSpec.pre6 enc Try.prog Try.f4 Rows.networkPlaysRow.domain false) (Rows.networkPlaysSpec.post enc Try.prog Try.f4 false true false false) := by
  refine returnsInHanded_of_change (C := Try.checked) own started (by kernel_rfl) Try.func4
    (ChangeSpec.witness6 (enc := enc) (C := Try.checked) false ⟨#[], #[.int .i64 0, .slice none 0 0, .int .i64 0], []⟩ 8 (by kernel_rfl) (by kernel_rfl) (by kernel_rfl) (by kernel_rfl)) ?_
  intro W base args ds gs before hval0 hW hcnd _
  have hval : ∀ (j : Nat) t v, Try.f4.params[j]? = some t → args[j]? = some v → Value.okWide Try.prog W .any base t v := hval0
  have hW' := hW
  obtain ⟨p, q, hA0, hV, rfl, hfz, hnd⟩ := hW
  have hA : DataW.TrodAll enc Try.prog W 0 (fun _ => true) true Try.f4.params.toList args.toList ds p := hA0
  rw [Try.params4] at hA hval
  obtain ⟨v0, vs0, d0, ds0, p0, q0, hargs, rfl, rfl, h0, r0⟩ := trodAll_cons hA
  obtain ⟨v1, vs1, d1, ds1, p1, q1, rfl, rfl, rfl, h1, r1⟩ := trodAll_cons r0
  obtain ⟨v2, vs2, d2, ds2, p2, q2, rfl, rfl, rfl, h2, r2⟩ := trodAll_cons r1
  obtain ⟨rfl, rfl, rfl⟩ := trodAll_nil r2
  obtain rfl : args = #[v0, v1, v2] := by cases args; simp_all
  obtain ⟨rfl, rfl⟩ := trodVars_none hV
  obtain ⟨s1, len1, cap1, rfl⟩ := okWide_slice Try.underlying37 (hval 1 37 v1 rfl rfl)
  have k1 := h1
  have lt1 : ∀ x ∈ p1, x.block < W.heap.size := by obtain ⟨m, hm⟩ := k1; exact DataW.trod_lt m _ _ _ hm
  obtain ⟨n1, cs1, hrow⟩ : ∃ n cs, ClRow [old W] (.slice s1 len1 cap1) n cs := by
    obtain ⟨fuel, hf⟩ := h1
    have hf' : DataW.trod enc Try.prog W 0 (fun _ => true) true fuel 37 [.slice s1 len1 cap1] = some (d1, p1) := by simpa [Value.cells] using hf
    rcases open_calls hf' with hn | ⟨a, len, cap, hv, hc⟩
    · rw [hn]
      exact ⟨0, [], ⟨by simp, .inl ⟨rfl, none, 0, rfl⟩⟩, rfl, fun k hk => by cases hk⟩
    · rw [hv]
      obtain ⟨cs, h⟩ := rows_in (cap := cap) hc
      exact ⟨len, cs, h⟩
  obtain ⟨a0, rfl, rfl, rfl, w0⟩ := open_int Try.underlying3 (hval 0 3 v0 rfl rfl) h0
  obtain ⟨a2, rfl, rfl, rfl, w2⟩ := open_int Try.underlying3 (hval 2 3 v2 rfl rfl) h2
  clear hA0 hval0
  refine (walk a0 a2 W hrow).mono fun e W' ⟨he, bel⟩ => ?_
  subst he
  exact ⟨_, rfl, _, _, _, [], _, [], hW', trodAll_mk1 (shut_bool Try.underlying4 _), (trodAll_cons_mk (shut_int Try.underlying3 w0) (trodAll_cons_mk (Below.trod laidOut (by kernel_rfl) (of_decide_eq_true (by kernel_rfl)) k1 bel lt1) (trodAll_cons_mk (shut_int Try.underlying3 w2) trodAll_mk0))), rfl, bel.frame _, fun h => by cases h⟩

theorem over : Rows.networkPlaysRow.holds Try.pinned (OpenSpec.ofChange Rows.networkPlaysSpec) :=
  OpenClaim.holds_of_wide 4 Try.f4 rfl rfl rfl rfl rfl rfl rfl ⟨rfl, rfl, rfl, rfl, rfl⟩ rfl rfl rfl rfl rfl (by kernel_rfl) Try.func4 (by kernel_rfl)
    (of_decide_eq_true (by kernel_rfl)) (by unfold Func.isWrapper; first | (rw [if_pos (by decide +kernel)]; kernel_rfl) | (rw [if_neg (by decide +kernel)]; exact ⟨rfl, rfl⟩))
    (fun os started H enc _ => lifted os started H enc)

/-- THE STATEMENT -/
theorem proved : Rows.NetworkPlaysSaid := over
end Go.Proofs.Ytggphdbifjoflaa.networkPlays
