/- For every byte slice and every integer: the call of NetworkKeeps returns true, and its arguments read afterwards as they read before. No condition. -/
import Derived.Test.YtggphdbifjoflaaU
import Derived.SizedLaws
import Derived.WalkKit
import Derived.ProofKit
import Derived.OpenShut
import Derived.ShutString
import Derived.ChangeOld
import Derived.Below
namespace Go.Proofs.Ytggphdbifjoflaa.networkKeeps
open Go.ChangeShapes Go.WideShapes Go.ChangeAt Go.RowKit
open Go.ChangeMaps (open_string shut_string)
set_option linter.unusedVariables false

theorem own : ownKnob Try.prog.godebug = none := by kernel_rfl
theorem laidOut : laidOutB Try.prog = true := by kernel_rfl

/-- WHAT THE WALK IS TOLD OF A SLICE OF INTEGERS THAT CAME IN: it is nil; or it leads to a row of 'cap' cells, the numbers 'zs' (the first 'len' are its elements, the rest its spare room), each fitting its kind. -/
def IsRow (k : IntKind) (w : World) (a : Option Addr) (len cap : Nat) (zs : List Int) : Prop :=
  (a = none ∧ len = 0 ∧ cap = 0 ∧ zs = []) ∨
  ∃ x, a = some x ∧ len ≤ cap ∧ cap ≤ maxLen ∧ zs.length = cap ∧ (∀ i, i < zs.length → w.cell? (x.add i) = some (.int k (zs.getD i 0))) ∧ ∀ n ∈ zs, (Lit.int k n).wf = true

/-- The bytes that such a row reads as. -/
theorem IsRow.bytes {w : World} {a : Option Addr} {len cap : Nat} {zs : List Int} (h : IsRow .u8 w a len cap zs) (hsz : cap ≤ 140737488355328) : ∃ l, l.length = len ∧ RL [old w] (.slice a len cap) l := by
  rcases h with ⟨rfl, rfl, rfl, rfl⟩ | ⟨x, rfl, hl, _, hz, hc, hwf⟩
  · exact ⟨[], rfl, by simp, by simp [u8s], .inl ⟨rfl, none, 0, rfl⟩⟩
  · refine ⟨(zs.take len).map fun n => UInt8.ofNat n.toNat, by simp; omega, ?_⟩
    have hlen : ((zs.take len).map fun n => UInt8.ofNat n.toNat).length = len := by simp; omega
    refine ⟨by rw [hlen]; omega, by rw [u8s_len, Nat.mul_one], ?_⟩
    rw [hlen]
    by_cases h0 : len = 0
    · exact .inl ⟨h0, some x, cap, by rw [h0]⟩
    · right
      have c0 := hc 0 (by omega)
      have hblk := World.block_lt_of_cell? _ _ c0
      obtain ⟨b, o, sp⟩ := x
      have hsp : sp = none := by
        have : (⟨b, o, sp⟩ : Addr).add 0 = ⟨b, o, sp⟩ := by simp [Addr.add]
        rw [this] at c0
        unfold World.cell? at c0
        cases sp with
        | none => rfl
        | some q => split at c0 <;> simp at c0
      subst hsp
      have hadd : ∀ i, (⟨b, o, none⟩ : Addr).add i = ⟨b, o + i, none⟩ := by intro i; simp only [Addr.add]; split <;> simp_all
      rw [hadd] at c0 hblk
      obtain ⟨c, E, fr, hb⟩ : ∃ c E fr, w.heap[b]? = some (.cells c E fr) := by
        unfold World.cell? at c0
        split at c0
        · rename_i c E fr hb; exact ⟨c, E, fr, hb⟩
        · simp at c0
      refine ⟨b, o, cap, c, E, fr, rfl, by simp only [List.flatten_cons, List.flatten_nil, List.append_nil]; exact mem_old.2 hb, fun j u hu => ?_⟩
      have hj : j < len := by
        have := (List.getElem?_eq_some_iff.1 hu).1
        simpa [u8s, Nat.min_eq_left (show len ≤ zs.length by omega)] using this
      have hcj := hc j (by omega)
      rw [hadd] at hcj
      have hcj2 : c[o + j]? = some (.int .u8 (zs.getD j 0)) := by simpa [World.cell?, hb] using hcj
      rw [hcj2]
      have hw := hwf (zs.getD j 0) (by
        have : zs.getD j 0 = zs[j]'(by omega) := by simp [List.getD, show j < zs.length by omega]
        rw [this]; exact List.getElem_mem _)
      have hz2 : 0 ≤ zs.getD j 0 ∧ zs.getD j 0 ≤ 255 := by
        simpa [Lit.wf, IntKind.min, IntKind.max, IntKind.signed, IntKind.bits] using hw
      have : (u8s ((zs.take len).map fun n => UInt8.ofNat n.toNat))[j]? = some (.int .u8 ((UInt8.ofNat (zs.getD j 0).toNat).toNat : Int)) := by
        simp [u8s, List.getD, hj, show j < zs.length by omega]
      rw [this] at hu
      have key : zs.getD j 0 = ((UInt8.ofNat (zs.getD j 0).toNat).toNat : Int) := by
        generalize zs.getD j 0 = z at hz2
        obtain ⟨m, rfl⟩ := Int.eq_ofNat_of_zero_le hz2.1
        rw [Int.toNat_natCast, UInt8.toNat_ofNat']
        omega
      rw [← key] at hu
      exact hu

theorem walk (a0 : Option Addr) (len0 cap0 : Nat) (z0 : List Int) (a1 : Int) (w : World) (w0 : IsRow .u8 w a0 len0 cap0 z0) (hsz : cap0 ≤ 140737488355328) :
    Calls Try.prog 3 #[.slice a0 len0 cap0, .int .i64 a1] w fun e w' => e = .returned (.bool true) ∧ Below w.heap.size w w' := by
  obtain ⟨l, _, hr⟩ := w0.bytes hsz
  refine (keeps_any (H.start w) hr).mono ?_
  rintro e w' ⟨rfl, h⟩
  exact ⟨rfl, h.below (fun p hp => by simpa using hp)⟩

/-! ### THE ROW's STEP: WRITTEN OUT: LEAVE IT -/
set_option maxRecDepth 100000 in
theorem lifted (os : Os) (started : os.Started) (H : Type) (enc : TypeId × Value → H) :
    ReturnsInHanded {} Try.checked os 3 .any (Rows.networkKeepsSpec.pre6 enc Try.prog Try.f3 Rows.networkKeepsRow.domain false) (Rows.networkKeepsSpec.post enc Try.prog Try.f3 false true false false) := by
  refine returnsInHanded_of_change_sized (C := Try.checked) own started (by kernel_rfl) Try.func3
    (ChangeSpec.witness6 (enc := enc) (C := Try.checked) false ⟨#[], #[.slice none 0 0, .int .i64 0], []⟩ 8 (by kernel_rfl) (by kernel_rfl) (by kernel_rfl) (by kernel_rfl)) ?_
  intro W base args ds gs before hval0 hW hcnd hsz _
  have hval : ∀ (j : Nat) t v, Try.f3.params[j]? = some t → args[j]? = some v → Value.okWide Try.prog W .any base t v := hval0
  have hW' := hW
  obtain ⟨p, q, hA0, hV, rfl, hfz, hnd⟩ := hW
  have hA : DataW.TrodAll enc Try.prog W 0 (fun _ => true) true Try.f3.params.toList args.toList ds p := hA0
  rw [Try.params3] at hA hval
  obtain ⟨v0, vs0, d0, ds0, p0, q0, hargs, rfl, rfl, h0, r0⟩ := trodAll_cons hA
  obtain ⟨v1, vs1, d1, ds1, p1, q1, rfl, rfl, rfl, h1, r1⟩ := trodAll_cons r0
  obtain ⟨rfl, rfl, rfl⟩ := trodAll_nil r1
  obtain rfl : args = #[v0, v1] := by cases args; simp_all
  obtain ⟨rfl, rfl⟩ := trodVars_none hV
  obtain ⟨a0, len0, cap0, rfl⟩ := okWide_slice Try.underlying22 (hval 0 22 v0 rfl rfl)
  have k0 := h0
  have lt0 : ∀ x ∈ p0, x.block < W.heap.size := by obtain ⟨m, hm⟩ := k0; exact DataW.trod_lt m _ _ _ hm
  obtain ⟨z0, w0, hcap⟩ : ∃ zs, IsRow .u8 W a0 len0 cap0 zs ∧ cap0 ≤ 140737488355328 := by
    obtain ⟨fuel, hf⟩ := h0
    rcases open_ints Try.underlying22 Try.underlying5 (by kernel_rfl) hf with ⟨hcs, _⟩ | ⟨x, l, c, zs, hcs, _, hl, hm, hz, hx, hcell, hwz⟩
    · simp [Value.cells] at hcs
      obtain ⟨rfl, rfl, rfl⟩ := hcs
      exact ⟨[], .inl ⟨rfl, rfl, rfl, rfl⟩, by omega⟩
    · simp [Value.cells] at hcs
      obtain ⟨rfl, rfl, rfl⟩ := hcs
      have hcap : cap0 ≤ 140737488355328 := by
        have hd : d0 = DataW.slice (lits IntKind.u8 (List.take len0 zs)) (lits IntKind.u8 (List.drop len0 zs)) := congrArg Prod.fst hx
        have h5 := sized_slice hsz (j := 0) (t := 22) (e := 5) rfl (by rw [hd]; rfl) Try.underlying22
        have h6 : Try.prog.bytesOf 5 = 1 := by kernel_rfl
        have h7 : zs.length = cap0 := by simpa using hz
        have h8 := reachBytes_lt
        have h5' : ((lits (H := H) IntKind.u8 (List.take len0 zs)).length + (lits (H := H) IntKind.u8 (List.drop len0 zs)).length) * Try.prog.bytesOf 5 ≤ reachBytes := h5
        rw [h6] at h5'
        simp [lits] at h5'
        omega
      exact ⟨zs, .inr ⟨_, rfl, hl, hm, by simpa using hz, hcell, hwz⟩, hcap⟩
  obtain ⟨a1, rfl, rfl, rfl, w1⟩ := open_int Try.underlying3 (hval 1 3 v1 rfl rfl) h1
  clear hA0 hval0
  refine (walk a0 len0 cap0 z0 a1 W w0 hcap).mono fun e W' ⟨he, bel⟩ => ?_
  subst he
  exact ⟨_, rfl, _, _, _, [], _, [], hW', trodAll_mk1 (shut_bool Try.underlying4 _), (trodAll_cons_mk (Below.trod laidOut (by kernel_rfl) (of_decide_eq_true (by kernel_rfl)) k0 bel lt0) (trodAll_cons_mk (shut_int Try.underlying3 w1) trodAll_mk0)), rfl, bel.frame _, fun h => by cases h⟩

theorem over : Rows.networkKeepsRow.holds Try.pinned (OpenSpec.ofChange Rows.networkKeepsSpec) :=
  OpenClaim.holds_of_wide 3 Try.f3 rfl rfl rfl rfl rfl rfl rfl ⟨rfl, rfl, rfl, rfl, rfl⟩ rfl rfl rfl rfl rfl (by kernel_rfl) Try.func3 (by kernel_rfl)
    (of_decide_eq_true (by kernel_rfl)) (by unfold Func.isWrapper; first | (rw [if_pos (by decide +kernel)]; kernel_rfl) | (rw [if_neg (by decide +kernel)]; exact ⟨rfl, rfl⟩))
    (fun os started H enc _ => lifted os started H enc)

/-- ████ THE STATEMENT ████ -/
theorem proved : Rows.NetworkKeepsSaid := over
end Go.Proofs.Ytggphdbifjoflaa.networkKeeps
