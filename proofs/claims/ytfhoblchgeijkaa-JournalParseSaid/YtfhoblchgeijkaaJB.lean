import Derived.Test.YtfhoblchgeijkaaJA
import Derived.Laws.MakeOwn
set_option linter.unusedVariables false
set_option linter.unusedSimpArgs false
/-! part Jl -/
namespace Go.Proofs.Ytfhoblchgeijkaa
open Go.RowKit Go.Maps

/-! Stops: the walk stands at an append, a copy, a store. -/
def Stp (p : Prop) : Prop := p
theorem stp {p : Prop} (h : Stp p) : p := h
theorem stp_store {P : Program} {ops : Array Oper} {rest : List Oper} {Q : Exit → Act → World → Prop} {a : Act} {w : World} {d : Option Tmp} {ty t2 : TypeId} {x y : Operand} {ps : String} {af : Array Edge} {g : Option (Nat × Bool)}
    (h : Stp (wpList P ops Q (⟨d, .store ty x y, t2, ps, af, g⟩ :: rest) a w)) : wpList P ops Q (⟨d, .store ty x y, t2, ps, af, g⟩ :: rest) a w := h
theorem stp_call {P : Program} {ops : Array Oper} {rest : List Oper} {Q : Exit → Act → World → Prop} {a : Act} {w : World} {d : Option Tmp} {t2 : TypeId} {b : Builtin} {xs : Array Operand} {ts : Array TypeId} {ps : String} {af : Array Edge} {g : Option (Nat × Bool)}
    (h : Stp (wpList P ops Q (⟨d, .call ⟨.builtin b, xs, ts⟩, t2, ps, af, g⟩ :: rest) a w)) : wpList P ops Q (⟨d, .call ⟨.builtin b, xs, ts⟩, t2, ps, af, g⟩ :: rest) a w := h

section
variable {P : Program} {W w : World} {L T : List Seg} {S : Seg}

/-- A whole array or struct is stored into its block. -/
theorem H.storeAgg {b : Nat} {cs vs : Array Value} {t ty : TypeId} (h : H W w ([(b, .cells cs t (0, 0))] :: L)) (hsz : vs.size = cs.size) (h1 : ∀ v ∈ vs.toList, v.oneCell' = true) (hi : (P.info? ty).map (·.size) = some cs.size) :
    ∃ w', (Instr.storeAt ty (.pointer (some ⟨b, 0, none⟩)) (.agg vs)).run P w = .ok () w' ∧ H W w' ([(b, .cells vs t (0, 0))] :: L) := by
  obtain ⟨w', hr, h2⟩ := h.stores (P := P) (off := 0) vs.toList (by simp [hsz]) h1
  refine ⟨w', ?_, ?_⟩
  · cases hq : P.info? ty with
    | none => simp [hq] at hi
    | some i =>
      have hs : i.size = cs.size := by simpa [hq] using hi
      have hc : (Value.agg vs).cells = vs := rfl
      simp [Instr.storeAt, Instr.sureAddr, storeVar, sizeOf, typeInfo, hq, hs, hc, hsz, hr]
  · have e : (spl cs.toList 0 vs.toList).toArray = vs := by
      simp only [spl, List.take_zero, List.nil_append, Nat.zero_add]
      rw [List.drop_of_length_le (by simp [hsz])]
      simp
    rw [e] at h2
    exact h2

theorem wpl_storeAgg {ops : Array Oper} {rest : List Oper} {Q : Exit → Act → World → Prop} {a : Act} {d : Option Tmp} {ty t2 : TypeId} {x y : Operand} {ps : String} {af : Array Edge}
    {b : Nat} {cs vs : Array Value} {t : TypeId} (hx : a.eval x = .pointer (some ⟨b, 0, none⟩)) (hy : a.eval y = .agg vs) (h : H W w ([(b, .cells cs t (0, 0))] :: L)) (hsz : vs.size = cs.size) (h1 : ∀ v ∈ vs.toList, v.oneCell' = true)
    (hi : (P.info? ty).map (·.size) = some cs.size) (hK : ∀ w', H W w' ([(b, .cells vs t (0, 0))] :: L) → wpList P ops Q rest (a.put d (.tuple #[])) w') :
    Stp (wpList P ops Q (⟨d, .store ty x y, t2, ps, af, none⟩ :: rest) a w) := by
  obtain ⟨w', hrun, h2⟩ := h.storeAgg hsz h1 hi
  refine wpList_plain rfl fun K hK' => ?_
  unfold Oper.wp execOp
  simp only [hx, hy, Sem.run_bind, Sem.run_pure, Result.andThen_ok, hrun]
  exact hK' _ _ (hK w' h2)

/-- An array of eight bytes is handed back out of the result's cell. -/
theorem ret_arr {fn : Func} {R : Ending → World → Prop} {a : Act} {p : Tmp} {b : Nat} {cs : Array Value} (hres : fn.results = #[.cell p 95]) (hd : a.defers = []) (hp : a.tmps.getD p undef = .pointer (some ⟨b, 0, none⟩))
    (h : H W w ([(b, .cells cs 95 (0, 0))] :: L)) (hs : cs.size = 8) (hR : R (.returned (.agg cs)) w) : bodyPost Try.prog fn R .ret a w :=
  bodyPost_ret (results_cell_row hres a.tmps w b 95 cs (0, 0) (.array 8 5) hp (h.mem (b, .cells cs 95 (0, 0)) (by simp)) (by kernel_rfl) rfl (by rw [hs]; kernel_rfl)) hd hR
end
end Go.Proofs.Ytfhoblchgeijkaa
namespace Go.Proofs.Ytfhoblchgeijkaa
open Go.RowKit Go.Maps
variable {W w : World} {L T : List Seg} {S : Seg}

/-- make([]byte, 0, c) -/
theorem H.make0 (h : H W w L) (k2 : IntKind) (c : Nat) (ci : Int) (hci : ci = (c : Int)) (hc : c ≤ 65536) : ∃ w' S, (Instr.makeSlice 27 (.int .i64 0) (.int k2 ci)).run Try.prog w = .ok (.slice (some ⟨w.heap.size, 0, none⟩) 0 c) w' ∧ H W w' (S :: L) ∧ OwnS 5 1 (.slice (some ⟨w.heap.size, 0, none⟩) 0 c) 0 [] S := by
  subst hci
  obtain ⟨i0, z, ht, hi, hz0, hz1, hz2, hzs, hsz⟩ := et27
  have hr := run_makeSlice (P := Try.prog) (w := w) 27 5 i0 z ht hi hz0 .i64 k2 0 (c : Int) (by decide) (by omega) (by rw [hz1]; omega) (by rw [hz2]; omega) (by omega)
  have e1 : ((c : Int)).toNat = c := by omega
  rw [e1] at hr
  refine ⟨_, _, hr, h.alloc _, ?_⟩
  refine ⟨by simp, .inr ⟨w.heap.size, c, _, rfl, rfl, by omega, by unfold maxLen; omega, ?_, by simp⟩⟩
  have := size_madeCells (z.cells) (c * i0.size)
  rw [hz1] at this ⊢
  simpa using this

theorem RS.swap {size n : Nat} {v : Value} {xs : List Value} {A B : Seg} (h : RS (A :: B :: L) size v n xs) : RS (B :: A :: L) size v n xs :=
  h.mono (by intro q hq; simp only [List.flatten_cons, List.mem_append] at hq ⊢; rcases hq with hq | hq | hq; exact .inr (.inl hq); exact .inl hq; exact .inr (.inr hq))
theorem H.pop2 {A B : Seg} (h : H W w (A :: B :: L)) : H W w (A :: L) := h.swap.drop
/-- The block of an array of eight zero bytes. -/
abbrev arr0 (b : Nat) : Seg := [(b, .cells #[.int .u8 0, .int .u8 0, .int .u8 0, .int .u8 0, .int .u8 0, .int .u8 0, .int .u8 0, .int .u8 0] 95 (0, 0))]
theorem H.arr (h : H W w L) : H W (w.alloc (.cells #[.int .u8 0, .int .u8 0, .int .u8 0, .int .u8 0, .int .u8 0, .int .u8 0, .int .u8 0, .int .u8 0] 95)) (arr0 w.heap.size :: L) := h.alloc _

/-- The tagged hash. -/
def tagV (t : UInt8) (l : List UInt8) : UInt64 := sumV (t :: l)

set_option maxRecDepth 100000 in
set_option maxHeartbeats 3200000 in
theorem tagged_ref {t : UInt8} {A : Option Addr} {c : Nat} {l : List UInt8} (h : H W w L) (hr : RS L 1 (.slice A l.length c) l.length (u8s l)) (hl : l.length ≤ 1099511627000) :
    Calls Try.prog 76 #[.int .u8 t.toNat, .slice A l.length c] w (POf (tagV t l) W L) := by
  obtain ⟨x, hx⟩ : ∃ x, x = tagV t l := ⟨_, rfl⟩
  have hx' := Lib.hid hx
  rw [← hx]
  clear hx
  have hz := Lib.hid h.arr
  have hr' := Lib.hid hr
  obtain ⟨w2, S2, hm, h2, o2⟩ := hz.out.make0 .i64 160 160 rfl (by decide)
  simp only [World.size_alloc] at hm o2
  have h2' := Lib.hid h2
  have o2' := Lib.hid o2
  clear h hr h2 o2 hz
  go_enter Try.func76, Try.ntmps76
  go_wp2_with (at_builtin; refine stp ?_)
  unfold Stp
  refine wpl_append (m := 1) (news := [.int .u8 t.toNat]) rfl (.tmp 5) (.tmp 7) rfl et27 rfl rfl (h2'.out.alloc _).swap o2'.out
    (((h2'.out.lit (E := 5) (size := 1) #[.int .u8 t.toNat] 1 (by simp [maxLen]) rfl).rs (S2 :: arr0 w.heap.size :: L)).swap)
    (by intro u hu; simp at hu; subst hu; rfl) (by omega) (by omega) ?_
  intro A1 c1 w3 S3 h5 h6
  have h5' := Lib.hid h5
  have h6' := Lib.hid h6
  clear h5 h6 hm h2' o2'
  go_wp2_with (at_builtin; refine stp ?_)
  unfold Stp
  refine wpl_append (m := l.length) (news := u8s l) rfl (.tmp 8) (.tmp 9) rfl et27 rfl rfl h5'.out h6'.out (((hr'.out.cons _).cons _).cons _) (u8s_one l) (by omega) (by omega) ?_
  intro A2 c2 w4 S4 h7 h8
  have h7' := Lib.hid h7
  have h8' := Lib.hid h8
  clear h7 h8 h5' h6'
  go_wp2_with fail
  have hu : RS (S4 :: [(w2.heap.size, Obj.cells #[Value.int IntKind.u8 ↑t.toNat] 5 (0, 0))] :: arr0 w.heap.size :: L) 1 (.slice A2 (t :: l).length c2) (t :: l).length (u8s (t :: l)) := by
    have e : 0 + 1 + l.length = (t :: l).length := by simp; omega
    have e2 : [] ++ [Value.int IntKind.u8 ↑t.toNat] ++ u8s l = u8s (t :: l) := rfl
    have h8 := h8'.out
    rw [e, e2] at h8
    exact h8.rs _
  have e : 1 + l.length = (t :: l).length := by simp; omega
  rw [e]
  have hcap : (t :: l).length ≤ c2 := by
    obtain ⟨_, _, q1, q2⟩ := h8'.out.cap
    simp only [Value.slice.injEq] at q1
    simp; omega
  have hcall := sum_ref h7'.out hu hcap (by simp; omega)
  have hx2 : sumV (t :: l) = x := hx'.out.symm
  rw [hx2] at hcall
  clear hx2
  refine hcall.mono ?_
  rintro e w5 ⟨rfl, h9⟩
  have h9' := Lib.hid h9
  clear h9 hu e hcap hcall
  go_wp2_with (with_reducible refine stp_store ?_)
  refine wpl_storeAgg rfl rfl (h9'.out.pick 2 rfl) rfl (by intro v hv; exact u8s_one _ v (by simpa using hv)) (by kernel_rfl) ?_
  intro w6 h10
  have h10' := Lib.hid h10
  clear h10
  go_wp2_with fail
  exact ret_arr (p := 4) (by kernel_rfl) rfl rfl h10'.out rfl ⟨rfl, h10'.out.drop.drop.drop⟩
set_option maxRecDepth 100000 in
set_option maxHeartbeats 3200000 in
theorem tagged_pro {t : UInt8} {A : Option Addr} {c : Nat} {l : List UInt8} (h : H W w L) (hr : RS L 1 (.slice A l.length c) l.length (u8s l)) (hl : l.length ≤ 1099511627000) :
    Calls Try.prog 75 #[.int .u8 t.toNat, .slice A l.length c] w (POf (tagV t l) W L) := by
  obtain ⟨x, hx⟩ : ∃ x, x = tagV t l := ⟨_, rfl⟩
  have hx' := Lib.hid hx
  rw [← hx]
  clear hx
  have hz := Lib.hid h.arr
  have hr' := Lib.hid hr
  obtain ⟨w2, S2, hm, h2, o2⟩ := hz.out.make0 .i64 160 160 rfl (by decide)
  simp only [World.size_alloc] at hm o2
  have h2' := Lib.hid h2
  have o2' := Lib.hid o2
  clear h hr h2 o2 hz
  go_enter Try.func75, Try.ntmps75
  go_wp2_with (at_builtin; refine stp ?_)
  unfold Stp
  refine wpl_append (m := 1) (news := [.int .u8 t.toNat]) rfl (.tmp 7) (.tmp 9) rfl et27 rfl rfl (h2'.out.alloc _).swap o2'.out
    (((h2'.out.lit (E := 5) (size := 1) #[.int .u8 t.toNat] 1 (by simp [maxLen]) rfl).rs (S2 :: arr0 w.heap.size :: L)).swap)
    (by intro u hu; simp at hu; subst hu; rfl) (by omega) (by omega) ?_
  intro A1 c1 w3 S3 h5 h6
  have h5' := Lib.hid h5
  have h6' := Lib.hid h6
  clear h5 h6 hm h2' o2'
  go_wp2_with (at_builtin; refine stp ?_)
  unfold Stp
  refine wpl_append (m := l.length) (news := u8s l) rfl (.tmp 10) (.tmp 11) rfl et27 rfl rfl h5'.out h6'.out (((hr'.out.cons _).cons _).cons _) (u8s_one l) (by omega) (by omega) ?_
  intro A2 c2 w4 S4 h7 h8
  have h7' := Lib.hid h7
  have h8' := Lib.hid h8
  clear h7 h8 h5' h6'
  go_wp2_with fail
  have hu : RS (S4 :: [(w2.heap.size, Obj.cells #[Value.int IntKind.u8 ↑t.toNat] 5 (0, 0))] :: arr0 w.heap.size :: L) 1 (.slice A2 (t :: l).length c2) (t :: l).length (u8s (t :: l)) := by
    have e : 0 + 1 + l.length = (t :: l).length := by simp; omega
    have e2 : [] ++ [Value.int IntKind.u8 ↑t.toNat] ++ u8s l = u8s (t :: l) := rfl
    have h8 := h8'.out
    rw [e, e2] at h8
    exact h8.rs _
  have e : 1 + l.length = (t :: l).length := by simp; omega
  rw [e]
  have hcap : (t :: l).length ≤ c2 := by
    obtain ⟨_, _, q1, q2⟩ := h8'.out.cap
    simp only [Value.slice.injEq] at q1
    simp; omega
  have hcall := sum_pro h7'.out hu hcap (by simp; omega)
  have hx2 : sumV (t :: l) = x := hx'.out.symm
  rw [hx2] at hcall
  clear hx2
  refine hcall.mono ?_
  rintro e w5 ⟨rfl, h9⟩
  have h9' := Lib.hid h9
  clear h9 hu e hcap hcall
  go_wp2_with (with_reducible refine stp_store ?_)
  refine wpl_storeAgg rfl rfl (h9'.out.pick 2 rfl) rfl (by intro v hv; exact u8s_one _ v (by simpa using hv)) (by kernel_rfl) ?_
  intro w6 h10
  have h10' := Lib.hid h10
  clear h10
  go_wp2_with fail
  exact ret_arr (p := 4) (by kernel_rfl) rfl rfl h10'.out rfl ⟨rfl, h10'.out.drop.drop.drop⟩
end Go.Proofs.Ytfhoblchgeijkaa

/-! part Jm -/
namespace Go.Proofs.Ytfhoblchgeijkaa
open Go.RowKit Go.Maps
variable {W w : World} {L T : List Seg} {S : Seg}

/-- The four lowest bytes of a number, the highest first. -/
def b4 (x : UInt64) : List UInt8 := [UInt8.ofNat (x.toNat / 16777216), UInt8.ofNat (x.toNat / 65536), UInt8.ofNat (x.toNat / 256), UInt8.ofNat x.toNat]
theorem b4_cells (x : UInt64) : u8s (b4 x) = [.int .u8 ((x.toNat : Int) / 16777216 % 256), .int .u8 ((x.toNat : Int) / 65536 % 256), .int .u8 ((x.toNat : Int) / 256 % 256), .int .u8 ((x.toNat : Int) % 256)] := by
  have h4 := by8d x.toNat 16777216
  have h5 := by8d x.toNat 65536
  have h6 := by8d x.toNat 256
  have h7 := by8 x.toNat
  unfold u8s b4
  simp only [List.map_cons, List.map_nil]
  rw [← h4, ← h5, ← h6, ← h7]
  rfl

theorem run_copy_zero (ty : TypeId) (a b : Option Addr) (cap c : Nat) (w : World) : (Builtin.copy_ #[27, 27] ty #[.slice a 0 cap, .slice b 0 c]).run Try.prog w = .ok (goInt 0) w := by
  obtain ⟨i0, z, ht, hi, hz0, hz1, hz2, hzs, hsz⟩ := et27
  cases a <;> cases b <;> simp [Builtin.copy_, run_underlying ht, sizeOf, typeInfo, hi, Builtin.lenOf, Builtin.firstCells, loadCells, loadCellsFrom, storeCells]

set_option maxRecDepth 100000 in
set_option maxHeartbeats 1600000 in
theorem ext_pro (h : H W w L) : Calls Try.prog 81 #[.slice none 0 0, .int .i64 4] w (PBytes W L 0 []) := by
  obtain ⟨w2, S2, hm, h2, o2⟩ := h.make0 .i64 4 4 rfl (by decide)
  have hcp := run_copy_zero 3 (some ⟨w.heap.size, 0, none⟩) none 4 0 w2
  have h2' := Lib.hid h2
  have o2' := Lib.hid o2
  clear h h2 o2
  go_enter Try.func81, Try.ntmps81
  go_wp2_with fail
  go_ret
  exact ⟨_, _, S2, rfl, h2'.out, o2'.out⟩

set_option maxRecDepth 100000 in
set_option maxHeartbeats 3200000 in
theorem au_pro (x : UInt64) (h : H W w L) : Calls Try.prog 73 #[.slice none 0 0, .int .u64 x.toNat, .int .i64 4] w (PBytes W L 4 (u8s (b4 x))) := by
  obtain ⟨l4, hl4⟩ : ∃ l4, l4 = u8s (b4 x) := ⟨_, rfl⟩
  have hc := b4_cells x
  rw [← hl4] at hc ⊢
  have hc' := Lib.hid hc
  have h' := Lib.hid h
  clear h hc hl4
  go_enter Try.func73, Try.ntmps73
  go_wp2_with fail
  refine (ext_pro h'.out).mono ?_
  rintro e w1 ⟨A, c, S1, rfl, h1, o1⟩
  have h1' := Lib.hid h1
  have o1' := Lib.hid (show OwnS 5 1 (.slice A 0 c) 0 (l4.take 0) S1 from o1)
  clear h1 o1
  go_wp2_with fail
  go_loopw [7, 8] (fun a i wr => ∃ (k : Nat) (i' : Int) (A : Option Addr) (c : Nat) (S : Seg), k ≤ 4 ∧ (k : Int) + i' = 3 ∧ i = .int .i64 i' ∧ a = .slice A k c ∧ H W wr (S :: L) ∧ OwnS 5 1 (.slice A k c) k (l4.take k) S) (fun _ i _ => (intOf i + 1).toNat)
  case atStart => exact ⟨0, 3, A, c, S1, by omega, rfl, rfl, rfl, h1'.out, o1'.out⟩
  case round =>
    obtain ⟨k, i', A2, c2, S2, hk, hi, rfl, rfl, hw, ow⟩ := hrel
    have hw' := Lib.hid hw
    have ow' := Lib.hid ow
    clear hw ow h1' o1'
    rcases (by omega : k = 0 ∨ k = 1 ∨ k = 2 ∨ k = 3 ∨ k = 4) with rfl | rfl | rfl | rfl | rfl
    · obtain rfl : i' = 3 := by omega
      go_wp2_with (at_builtin; refine stp ?_)
      unfold Stp
      refine wpl_append (m := 1) (news := [.int .u8 ((x.toNat : Int) / 16777216 % 256)]) rfl (.tmp 21) (.tmp 27) rfl et27 rfl rfl (hw'.out.alloc _).swap ow'.out
        (((hw'.out.lit (E := 5) (size := 1) #[.int .u8 ((x.toNat : Int) / 16777216 % 256)] 1 (by simp [maxLen]) rfl).rs (S2 :: L)).swap)
        (by intro u hu; simp at hu; subst hu; rfl) (by omega) (by omega) ?_
      intro A3 c3 w3 S3 h5 h6
      have hst : l4.take 0 ++ [.int .u8 ((x.toNat : Int) / 16777216 % 256)] = l4.take 1 := by rw [hc'.out]; rfl
      rw [hst] at h6
      have h5' := Lib.hid h5.pop2
      have h6' := Lib.hid h6
      clear h5 h6 hst
      go_wp2_with fail
      exact ⟨⟨1, 2, A3, c3, S3, by omega, by omega, rfl, rfl, h5'.out, h6'.out⟩, by simp [intOf]⟩
    · obtain rfl : i' = 2 := by omega
      go_wp2_with (at_builtin; refine stp ?_)
      unfold Stp
      refine wpl_append (m := 1) (news := [.int .u8 ((x.toNat : Int) / 65536 % 256)]) rfl (.tmp 21) (.tmp 27) rfl et27 rfl rfl (hw'.out.alloc _).swap ow'.out
        (((hw'.out.lit (E := 5) (size := 1) #[.int .u8 ((x.toNat : Int) / 65536 % 256)] 1 (by simp [maxLen]) rfl).rs (S2 :: L)).swap)
        (by intro u hu; simp at hu; subst hu; rfl) (by omega) (by omega) ?_
      intro A3 c3 w3 S3 h5 h6
      have hst : l4.take 1 ++ [.int .u8 ((x.toNat : Int) / 65536 % 256)] = l4.take 2 := by rw [hc'.out]; rfl
      rw [hst] at h6
      have h5' := Lib.hid h5.pop2
      have h6' := Lib.hid h6
      clear h5 h6 hst
      go_wp2_with fail
      exact ⟨⟨2, 1, A3, c3, S3, by omega, by omega, rfl, rfl, h5'.out, h6'.out⟩, by simp [intOf]⟩
    · obtain rfl : i' = 1 := by omega
      go_wp2_with (at_builtin; refine stp ?_)
      unfold Stp
      refine wpl_append (m := 1) (news := [.int .u8 ((x.toNat : Int) / 256 % 256)]) rfl (.tmp 21) (.tmp 27) rfl et27 rfl rfl (hw'.out.alloc _).swap ow'.out
        (((hw'.out.lit (E := 5) (size := 1) #[.int .u8 ((x.toNat : Int) / 256 % 256)] 1 (by simp [maxLen]) rfl).rs (S2 :: L)).swap)
        (by intro u hu; simp at hu; subst hu; rfl) (by omega) (by omega) ?_
      intro A3 c3 w3 S3 h5 h6
      have hst : l4.take 2 ++ [.int .u8 ((x.toNat : Int) / 256 % 256)] = l4.take 3 := by rw [hc'.out]; rfl
      rw [hst] at h6
      have h5' := Lib.hid h5.pop2
      have h6' := Lib.hid h6
      clear h5 h6 hst
      go_wp2_with fail
      exact ⟨⟨3, 0, A3, c3, S3, by omega, by omega, rfl, rfl, h5'.out, h6'.out⟩, by simp [intOf]⟩
    · obtain rfl : i' = 0 := by omega
      go_wp2_with (at_builtin; refine stp ?_)
      unfold Stp
      refine wpl_append (m := 1) (news := [.int .u8 ((x.toNat : Int) % 256)]) rfl (.tmp 21) (.tmp 27) rfl et27 rfl rfl (hw'.out.alloc _).swap ow'.out
        (((hw'.out.lit (E := 5) (size := 1) #[.int .u8 ((x.toNat : Int) % 256)] 1 (by simp [maxLen]) rfl).rs (S2 :: L)).swap)
        (by intro u hu; simp at hu; subst hu; rfl) (by omega) (by omega) ?_
      intro A3 c3 w3 S3 h5 h6
      have hst : l4.take 3 ++ [.int .u8 ((x.toNat : Int) % 256)] = l4.take 4 := by rw [hc'.out]; rfl
      rw [hst] at h6
      have h5' := Lib.hid h5.pop2
      have h6' := Lib.hid h6
      clear h5 h6 hst
      go_wp2_with fail
      exact ⟨⟨4, -1, A3, c3, S3, by omega, by omega, rfl, rfl, h5'.out, h6'.out⟩, by simp [intOf]⟩
    · obtain rfl : i' = -1 := by omega
      go_wp2_with fail
      go_ret
      refine ⟨A2, c2, S2, rfl, hw'.out, ?_⟩
      have h6 := ow'.out
      rw [List.take_of_length_le (by rw [hc'.out]; exact Nat.le_refl _)] at h6
      exact h6

set_option maxRecDepth 100000 in
set_option maxHeartbeats 3200000 in
theorem au_ref (x : UInt64) (h : H W w L) : Calls Try.prog 77 #[.slice none 0 0, .int .u64 x.toNat, .int .i64 4] w (PBytes W L 4 (u8s (b4 x))) := by
  obtain ⟨l4, hl4⟩ : ∃ l4, l4 = u8s (b4 x) := ⟨_, rfl⟩
  have hc := b4_cells x
  rw [← hl4] at hc ⊢
  have hc' := Lib.hid hc
  have h' := Lib.hid h
  clear h hc hl4
  go_enter Try.func77, Try.ntmps77
  go_wp2_with (at_builtin; refine stp ?_)
  unfold Stp
  refine wpl_append (m := 0) (news := []) rfl (.tmp 9) (.tmp 10) rfl et27 rfl rfl (h'.out.alloc _) (h'.out.lit (E := 5) (size := 1) #[] 0 (by simp [maxLen]) rfl) ⟨rfl, .inl ⟨rfl, none, 0, rfl⟩⟩ (by simp) (by omega) (by omega) ?_
  intro A c w1 S1 h1 o1
  have h1' := Lib.hid h1
  have o1' := Lib.hid (show OwnS 5 1 (.slice A 0 c) 0 (l4.take 0) S1 from o1)
  clear h1 o1
  go_wp2_with fail
  go_loopw [7, 8] (fun a i wr => ∃ (k : Nat) (i' : Int) (A : Option Addr) (c : Nat) (S : Seg), k ≤ 4 ∧ (k : Int) + i' = 3 ∧ i = .int .i64 i' ∧ a = .slice A k c ∧ H W wr (S :: L) ∧ OwnS 5 1 (.slice A k c) k (l4.take k) S) (fun _ i _ => (intOf i + 1).toNat)
  case atStart => exact ⟨0, 3, A, c, S1, by omega, rfl, rfl, rfl, h1'.out, o1'.out⟩
  case round =>
    obtain ⟨k, i', A2, c2, S2, hk, hi, rfl, rfl, hw, ow⟩ := hrel
    have hw' := Lib.hid hw
    have ow' := Lib.hid ow
    clear hw ow h1' o1'
    rcases (by omega : k = 0 ∨ k = 1 ∨ k = 2 ∨ k = 3 ∨ k = 4) with rfl | rfl | rfl | rfl | rfl
    · obtain rfl : i' = 3 := by omega
      go_wp2_with (at_builtin; refine stp ?_)
      unfold Stp
      refine wpl_append (m := 1) (news := [.int .u8 ((x.toNat : Int) / 16777216 % 256)]) rfl (.tmp 20) (.tmp 27) rfl et27 rfl rfl (hw'.out.alloc _).swap ow'.out
        (((hw'.out.lit (E := 5) (size := 1) #[.int .u8 ((x.toNat : Int) / 16777216 % 256)] 1 (by simp [maxLen]) rfl).rs (S2 :: L)).swap)
        (by intro u hu; simp at hu; subst hu; rfl) (by omega) (by omega) ?_
      intro A3 c3 w3 S3 h5 h6
      have hst : l4.take 0 ++ [.int .u8 ((x.toNat : Int) / 16777216 % 256)] = l4.take 1 := by rw [hc'.out]; rfl
      rw [hst] at h6
      have h5' := Lib.hid h5.pop2
      have h6' := Lib.hid h6
      clear h5 h6 hst
      go_wp2_with fail
      exact ⟨⟨1, 2, A3, c3, S3, by omega, by omega, rfl, rfl, h5'.out, h6'.out⟩, by simp [intOf]⟩
    · obtain rfl : i' = 2 := by omega
      go_wp2_with (at_builtin; refine stp ?_)
      unfold Stp
      refine wpl_append (m := 1) (news := [.int .u8 ((x.toNat : Int) / 65536 % 256)]) rfl (.tmp 20) (.tmp 27) rfl et27 rfl rfl (hw'.out.alloc _).swap ow'.out
        (((hw'.out.lit (E := 5) (size := 1) #[.int .u8 ((x.toNat : Int) / 65536 % 256)] 1 (by simp [maxLen]) rfl).rs (S2 :: L)).swap)
        (by intro u hu; simp at hu; subst hu; rfl) (by omega) (by omega) ?_
      intro A3 c3 w3 S3 h5 h6
      have hst : l4.take 1 ++ [.int .u8 ((x.toNat : Int) / 65536 % 256)] = l4.take 2 := by rw [hc'.out]; rfl
      rw [hst] at h6
      have h5' := Lib.hid h5.pop2
      have h6' := Lib.hid h6
      clear h5 h6 hst
      go_wp2_with fail
      exact ⟨⟨2, 1, A3, c3, S3, by omega, by omega, rfl, rfl, h5'.out, h6'.out⟩, by simp [intOf]⟩
    · obtain rfl : i' = 1 := by omega
      go_wp2_with (at_builtin; refine stp ?_)
      unfold Stp
      refine wpl_append (m := 1) (news := [.int .u8 ((x.toNat : Int) / 256 % 256)]) rfl (.tmp 20) (.tmp 27) rfl et27 rfl rfl (hw'.out.alloc _).swap ow'.out
        (((hw'.out.lit (E := 5) (size := 1) #[.int .u8 ((x.toNat : Int) / 256 % 256)] 1 (by simp [maxLen]) rfl).rs (S2 :: L)).swap)
        (by intro u hu; simp at hu; subst hu; rfl) (by omega) (by omega) ?_
      intro A3 c3 w3 S3 h5 h6
      have hst : l4.take 2 ++ [.int .u8 ((x.toNat : Int) / 256 % 256)] = l4.take 3 := by rw [hc'.out]; rfl
      rw [hst] at h6
      have h5' := Lib.hid h5.pop2
      have h6' := Lib.hid h6
      clear h5 h6 hst
      go_wp2_with fail
      exact ⟨⟨3, 0, A3, c3, S3, by omega, by omega, rfl, rfl, h5'.out, h6'.out⟩, by simp [intOf]⟩
    · obtain rfl : i' = 0 := by omega
      go_wp2_with (at_builtin; refine stp ?_)
      unfold Stp
      refine wpl_append (m := 1) (news := [.int .u8 ((x.toNat : Int) % 256)]) rfl (.tmp 20) (.tmp 27) rfl et27 rfl rfl (hw'.out.alloc _).swap ow'.out
        (((hw'.out.lit (E := 5) (size := 1) #[.int .u8 ((x.toNat : Int) % 256)] 1 (by simp [maxLen]) rfl).rs (S2 :: L)).swap)
        (by intro u hu; simp at hu; subst hu; rfl) (by omega) (by omega) ?_
      intro A3 c3 w3 S3 h5 h6
      have hst : l4.take 3 ++ [.int .u8 ((x.toNat : Int) % 256)] = l4.take 4 := by rw [hc'.out]; rfl
      rw [hst] at h6
      have h5' := Lib.hid h5.pop2
      have h6' := Lib.hid h6
      clear h5 h6 hst
      go_wp2_with fail
      exact ⟨⟨4, -1, A3, c3, S3, by omega, by omega, rfl, rfl, h5'.out, h6'.out⟩, by simp [intOf]⟩
    · obtain rfl : i' = -1 := by omega
      go_wp2_with fail
      go_ret
      refine ⟨A2, c2, S2, rfl, hw'.out, ?_⟩
      have h6 := ow'.out
      rw [List.take_of_length_le (by rw [hc'.out]; exact Nat.le_refl _)] at h6
      exact h6

end Go.Proofs.Ytfhoblchgeijkaa

/-! part Jn -/
namespace Go.Proofs.Ytfhoblchgeijkaa
open Go.RowKit Go.Maps
variable {W w : World} {L T : List Seg} {S : Seg}

/-- l[i:j] -/
def sub (l : List UInt8) (i j : Nat) : List UInt8 := (l.drop i).take (j - i)
theorem sub_len {l : List UInt8} {i j : Nat} (h : j ≤ l.length) : (sub l i j).length = j - i := by
  unfold sub; rw [List.length_take, List.length_drop]; omega

theorem rs_sub {A : Option Addr} {c i j c' : Nat} {l : List UInt8} (hr : RS L 1 (.slice A l.length c) l.length (u8s l)) (hij : i ≤ j) (hj : j ≤ l.length) (B : Option Addr) (hB : i < j → B = A.map (·.add (i * 1))) :
    RS L 1 (.slice B (j - i) c') (sub l i j).length (u8s (sub l i j)) := by
  refine ⟨by simp [u8s], ?_⟩
  rw [sub_len hj]
  by_cases h0 : i < j
  · rcases hr.2 with ⟨h1, _⟩ | ⟨g, o, cap, cur, E, fr, h1, h2, h3⟩
    · omega
    · simp only [Value.slice.injEq] at h1
      obtain ⟨rfl, _, rfl⟩ := h1
      refine .inr ⟨g, o + i, c', cur, E, fr, ?_, h2, fun k u hu => ?_⟩
      · rw [hB h0]
        simp only [Option.map_some, Nat.mul_one, Value.slice.injEq, and_true, Option.some.injEq]
        exact add_eq
      · have := h3 (i + k) u (by
          unfold sub u8s at hu
          unfold u8s
          rw [List.getElem?_map] at hu ⊢
          rw [List.getElem?_take, List.getElem?_drop] at hu
          split at hu
          · exact hu
          · simp at hu)
        rw [Nat.add_assoc]; exact this
  · exact .inl ⟨by omega, B, c', by rw [show j - i = 0 by omega]⟩

theorem bnd_i64 (x : Int) (n m : Nat) (h : x = (n : Int)) (hm : n ≤ m) (e : BoundsCode) (w : World) : (Instr.sliceBound (.int .i64 x) m e).run Try.prog w = .ok n w := by
  subst h
  simp [Instr.sliceBound, asIntOf, hm]

/-- b[i:j] -/
theorem slice_ij {A : Option Addr} {c i j : Nat} {l : List UInt8} (hr : RS L 1 (.slice A l.length c) l.length (u8s l)) (hij : i ≤ j) (hj : j ≤ l.length) (hc : l.length ≤ c) :
    ∃ B c', (∀ (x y : Int) w, x = (i : Int) → y = (j : Int) → (Instr.slice 27 (.slice A l.length c) (some (.int .i64 x)) (some (.int .i64 y)) none).run Try.prog w = .ok (.slice B (j - i) c') w) ∧
      RS L 1 (.slice B (j - i) c') (sub l i j).length (u8s (sub l i j)) ∧ j - i ≤ c' := by
  refine ⟨if c = i then A else A.map (·.add (i * 1)), c - i, ?_, rs_sub hr hij hj _ (fun h => by rw [if_neg (by omega)]), by omega⟩
  intro x y w hx hy
  have b1 := fun e => bnd_i64 x i j hx hij e w
  have b2 := fun e => bnd_i64 y j c hy (by omega) e w
  simp [Instr.slice, run_underlying Try.underlying27, Instr.sliceBounds, b1, b2]
/-- b[i:j:j] -/
theorem slice_ijj {A : Option Addr} {c i j : Nat} {l : List UInt8} (hr : RS L 1 (.slice A l.length c) l.length (u8s l)) (hij : i ≤ j) (hj : j ≤ l.length) (hc : l.length ≤ c) :
    ∃ B, (∀ (x y : Int) w, x = (i : Int) → y = (j : Int) → (Instr.slice 27 (.slice A l.length c) (some (.int .i64 x)) (some (.int .i64 y)) (some (.int .i64 y))).run Try.prog w = .ok (.slice B (j - i) (j - i)) w) ∧
      RS L 1 (.slice B (j - i) (j - i)) (sub l i j).length (u8s (sub l i j)) := by
  refine ⟨if j = i then A else A.map (·.add (i * 1)), ?_, rs_sub hr hij hj _ (fun h => by rw [if_neg (by omega)])⟩
  intro x y w hx hy
  have b1 := fun e => bnd_i64 x i j hx hij e w
  have b2 := fun e => bnd_i64 y j c hy (by omega) e w
  have b3 := fun e => bnd_i64 y j j hy (by omega) e w
  simp [Instr.slice, run_underlying Try.underlying27, Instr.sliceBounds, b1, b2, b3]

def PUint (o : Option UInt64) (W : World) (L : List Seg) (e : Ending) (w' : World) : Prop :=
  e = .returned (.tuple #[.int .u64 (o.getD 0).toNat, .bool o.isSome]) ∧ H W w' L

def uintV (l : List UInt8) (k : Nat) : Option UInt64 := if k + 4 ≤ l.length then some (numB (sub l k (k + 4))) else none

set_option maxRecDepth 100000 in
set_option maxHeartbeats 1600000 in
theorem follow_pro {A : Option Addr} {n c k m : Nat} {b : Bool} (hb : decide ((m : Int) ≤ (n : Int) - (k : Int)) = b) (hn : n ≤ 1099511627776) (hk : k ≤ n) (w : World) : Calls Try.prog 74 #[.slice A n c, .int .i64 k, .int .i64 m] w fun e w' => e = .returned (.bool b) ∧ w = w' := by
  go_enter Try.func74, Try.ntmps74
  go_wp2
  go_ret
  exact ⟨rfl, rfl⟩

set_option maxRecDepth 100000 in
set_option maxHeartbeats 1600000 in
theorem uint_pro {A : Option Addr} {c k : Nat} {l : List UInt8} (h : H W w L) (hr : RS L 1 (.slice A l.length c) l.length (u8s l)) (hc : l.length ≤ c) (hl : l.length ≤ 1099511627776) (hk : k ≤ l.length) :
    Calls Try.prog 57 #[.slice A l.length c, .int .i64 k, .int .i64 4] w (PUint (uintV l k) W L) := by
  have h' := Lib.hid h
  have hr' := Lib.hid hr
  clear h hr
  by_cases hfit : k + 4 ≤ l.length
  · have hfo := fun w => follow_pro (A := A) (n := l.length) (c := c) (k := k) (m := 4) (b := true) (by simp; omega) hl hk w
    obtain ⟨B, c', hs, hq, hcc⟩ := slice_ij hr'.out (i := k) (j := k + 4) (by omega) hfit hc
    have e4 : k + 4 - k = 4 := by omega
    rw [e4] at hs hq hcc
    rw [show uintV l k = some (numB (sub l k (k + 4))) by unfold uintV; rw [if_pos hfit]]
    obtain ⟨q, hqd⟩ : ∃ q, sub l k (k + 4) = q := ⟨_, rfl⟩
    have hql : q.length = 4 := by rw [← hqd, sub_len hfit]; omega
    rw [hqd] at hq ⊢
    rw [hql] at hq
    have hs' := fun w => hs k ((k : Int) + 4) w rfl (by omega)
    have hq' := Lib.hid hq
    obtain ⟨g, o, rfl, hcell⟩ := hq.get (by omega)
    have hql' := Lib.hid hql
    clear hq hqd hs hql
    have hnv := numB_val
    have hw8 := w8id
    go_enter Try.func57, Try.ntmps57
    go_wp2_with fail
    refine (hfo w).mono ?_
    rintro e w1 ⟨rfl, rfl⟩
    go_wp2_with fail
    go_loopw [8, 31] (fun v i wr => ∃ j : Nat, j ≤ 4 ∧ i = .int .i64 j ∧ v = .int .u64 (numB (q.take j)).toNat ∧ H W wr L) (fun _ i _ => 4 - (intOf i).toNat)
    case atStart => exact ⟨0, by omega, rfl, rfl, h'.out⟩
    case round =>
      obtain ⟨j, hj, rfl, rfl, hw⟩ := hrel
      have hw' := Lib.hid hw
      clear hw h'
      by_cases hlt : j < 4
      · have hji : (j : Int) < 4 := by omega
        obtain ⟨ch, hch⟩ : ∃ ch : UInt8, q[j]? = some ch := ⟨_, List.getElem?_eq_getElem (by rw [hql'.out]; exact hlt)⟩
        have hcj := hcell W wr hw'.out j (.int .u8 ch.toNat) (by unfold u8s; rw [List.getElem?_map, hch]; rfl)
        have hsn : numB (q.take (j + 1)) = numB (q.take j) <<< 8 ||| ch.toUInt64 := by
          rw [List.take_add_one, hch]
          exact numB_snoc _ _
        generalize numB (q.take j) = z at *
        have hsn' := Lib.hid hsn
        clear hsn hch hcell
        go_wp2_with fail
        refine ⟨⟨j + 1, by omega, by go_num, by rw [hsn'.out, UInt64.toNat_or, UInt64.toNat_shiftLeft, UInt8.toNat_toUInt64]; rfl, hw'.out⟩, by simp [intOf]; omega⟩
      · obtain rfl : j = 4 := by omega
        rw [List.take_of_length_le (by rw [hql'.out]; exact Nat.le_refl _)]
        clear hcell
        go_wp2_with fail
        go_ret2
        exact ⟨rfl, hw'.out⟩
  · have hfo := fun w => follow_pro (A := A) (n := l.length) (c := c) (k := k) (m := 4) (b := false) (by simp; omega) hl hk w
    rw [show uintV l k = none by unfold uintV; rw [if_neg hfit]]
    go_enter Try.func57, Try.ntmps57
    go_wp2_with fail
    refine (hfo w).mono ?_
    rintro e w1 ⟨rfl, rfl⟩
    go_wp2_with fail
    go_ret2
    exact ⟨rfl, h'.out⟩

set_option maxRecDepth 100000 in
set_option maxHeartbeats 1600000 in
theorem uint_ref {A : Option Addr} {c k : Nat} {l : List UInt8} (h : H W w L) (hr : RS L 1 (.slice A l.length c) l.length (u8s l)) (hl : l.length ≤ 1099511627776) (hfit : k + 4 ≤ l.length) :
    Calls Try.prog 60 #[.slice A l.length c, .int .i64 k, .int .i64 4] w (PUint (some (numB (sub l k (k + 4)))) W L) := by
  have h' := Lib.hid h
  obtain ⟨g, o, rfl, hcell⟩ := hr.get (by omega)
  clear h hr
  obtain ⟨q, hqd⟩ : ∃ q, sub l k (k + 4) = q := ⟨_, rfl⟩
  have hql : q.length = 4 := by rw [← hqd, sub_len hfit]; omega
  rw [hqd]
  have hqi : ∀ j, j < 4 → l[k + j]? = q[j]? := by
    intro j hj
    rw [← hqd]
    unfold sub
    rw [List.getElem?_take, if_pos (by omega), List.getElem?_drop]
  have hqi' := Lib.hid hqi
  have hql' := Lib.hid hql
  clear hqd hqi hql
  have hnv := numB_val
  have hw8 := w8id
  have g1 : ¬ (l.length : Int) - 4 < (k : Int) := by omega
  go_enter Try.func60, Try.ntmps60
  go_wp2_with fail
  go_loopw [8, 9] (fun v i wr => ∃ j : Nat, j ≤ 4 ∧ i = .int .i64 j ∧ v = .int .u64 (numB (q.take j)).toNat ∧ H W wr L) (fun _ i _ => 4 - (intOf i).toNat)
  case atStart => exact ⟨0, by omega, rfl, rfl, h'.out⟩
  case round =>
    obtain ⟨j, hj, rfl, rfl, hw⟩ := hrel
    have hw' := Lib.hid hw
    clear hw h'
    by_cases hlt : j < 4
    · have hji : (j : Int) < 4 := by omega
      obtain ⟨ch, hch⟩ : ∃ ch : UInt8, q[j]? = some ch := ⟨_, List.getElem?_eq_getElem (by rw [hql'.out]; exact hlt)⟩
      have hcj := hcell W wr hw'.out (k + j) (.int .u8 ch.toNat) (by unfold u8s; rw [List.getElem?_map, hqi'.out j hlt, hch]; rfl)
      have hsn : numB (q.take (j + 1)) = numB (q.take j) <<< 8 ||| ch.toUInt64 := by
        rw [List.take_add_one, hch]
        exact numB_snoc _ _
      generalize numB (q.take j) = z at *
      have hsn' := Lib.hid hsn
      clear hsn hch hcell
      go_wp2_with fail
      refine ⟨⟨j + 1, by omega, by go_num, by rw [hsn'.out, UInt64.toNat_or, UInt64.toNat_shiftLeft, UInt8.toNat_toUInt64]; rfl, hw'.out⟩, by simp [intOf]; omega⟩
    · obtain rfl : j = 4 := by omega
      rw [List.take_of_length_le (by rw [hql'.out]; exact Nat.le_refl _)]
      clear hcell
      go_wp2_with fail
      go_ret2
      exact ⟨rfl, hw'.out⟩
end Go.Proofs.Ytfhoblchgeijkaa

/-! part Jo -/
namespace Go.Proofs.Ytfhoblchgeijkaa
open Go.RowKit Go.Maps
variable {W w : World} {L T : List Seg} {S : Seg}

/-- The checksum's number. -/
def chk (x : UInt64) (l : List UInt8) : UInt64 := tagV 88 (b4 x ++ l)
theorem w64id (x : UInt64) : IntKind.u64.wrap (x.toNat : Int) = (x.toNat : Int) := by
  rw [IntKind.wrap_u64]; have := lt64 x; omega
theorem b4_len (x : UInt64) : (b4 x).length = 4 := rfl

set_option maxRecDepth 100000 in
set_option maxHeartbeats 1600000 in
theorem chk_pro (x : UInt64) {A : Option Addr} {c : Nat} {l : List UInt8} (h : H W w L) (hr : RS L 1 (.slice A l.length c) l.length (u8s l)) (hl : l.length ≤ 1099511620000) (hxl : x.toNat < 9223372036854775808) :
    Calls Try.prog 58 #[.int .i64 x.toNat, .slice A l.length c] w (POf (chk x l) W L) := by
  obtain ⟨z, hz⟩ : ∃ z, z = chk x l := ⟨_, rfl⟩
  have hz' := Lib.hid hz
  rw [← hz]
  clear hz
  obtain ⟨p, hp⟩ : ∃ p, p = b4 x := ⟨_, rfl⟩
  have hpl : p.length = 4 := by rw [hp]; rfl
  have hp' := Lib.hid hp
  have hwx := w64id x
  have h' := Lib.hid h.arr
  have hr' := Lib.hid hr
  clear h hr hp
  go_enter Try.func58, Try.ntmps58
  go_wp2_with fail
  refine (au_pro x h'.out).mono ?_
  rintro e w1 ⟨A1, c1, S1, rfl, h1, o1⟩
  rw [← hp'.out] at o1
  have h1' := Lib.hid h1
  have o1' := Lib.hid o1
  clear h1 o1 h'
  go_wp2_with (at_builtin; refine stp ?_)
  unfold Stp
  refine wpl_append (m := l.length) (news := u8s l) rfl (.tmp 7) (.tmp 8) rfl et27 rfl rfl h1'.out o1'.out ((hr'.out.cons _).cons _) (u8s_one l) (by omega) (by omega) ?_
  intro A2 c2 w2 S2 h2 o2
  have e1 : 4 + l.length = (p ++ l).length := by rw [List.length_append, hpl]
  have e2 : u8s p ++ u8s l = u8s (p ++ l) := by simp [u8s]
  rw [e1, e2] at o2
  have hcap : (p ++ l).length ≤ c2 := by
    obtain ⟨_, _, q1, q2⟩ := o2.cap
    simp only [Value.slice.injEq] at q1
    omega
  have hcall := tagged_pro (t := 88) h2 (o2.rs _) (by rw [← e1]; omega)
  have hx2 : tagV 88 (p ++ l) = z := by rw [hz'.out, hp'.out]; rfl
  rw [hx2, ← e1] at hcall
  have hcall' := Lib.hid hcall
  clear hx2 e1 e2 hcap h2 o2 hpl h1' o1' hcall
  go_wp2_with fail
  refine hcall'.out.mono ?_
  rintro e w3 ⟨rfl, h3⟩
  have h3' := Lib.hid h3
  clear h3 hcall'
  go_wp2_with (with_reducible refine stp_store ?_)
  refine wpl_storeAgg rfl rfl (h3'.out.pick 1 rfl) rfl (by intro v hv; exact u8s_one _ v (by simpa using hv)) (by kernel_rfl) ?_
  intro w6 h10
  have h10' := Lib.hid h10
  clear h10
  go_wp2_with fail
  exact ret_arr (p := 4) (by kernel_rfl) rfl rfl h10'.out rfl ⟨rfl, h10'.out.drop.drop⟩

set_option maxRecDepth 100000 in
set_option maxHeartbeats 1600000 in
theorem chk_ref (x : UInt64) {A : Option Addr} {c : Nat} {l : List UInt8} (h : H W w L) (hr : RS L 1 (.slice A l.length c) l.length (u8s l)) (hl : l.length ≤ 1099511620000) (hxl : x.toNat < 9223372036854775808) :
    Calls Try.prog 61 #[.int .i64 x.toNat, .slice A l.length c] w (POf (chk x l) W L) := by
  obtain ⟨z, hz⟩ : ∃ z, z = chk x l := ⟨_, rfl⟩
  have hz' := Lib.hid hz
  rw [← hz]
  clear hz
  obtain ⟨p, hp⟩ : ∃ p, p = b4 x := ⟨_, rfl⟩
  have hpl : p.length = 4 := by rw [hp]; rfl
  have hp' := Lib.hid hp
  have hwx := w64id x
  have h' := Lib.hid h.arr
  have hr' := Lib.hid hr
  clear h hr hp
  go_enter Try.func61, Try.ntmps61
  go_wp2_with fail
  refine (au_ref x h'.out).mono ?_
  rintro e w1 ⟨A1, c1, S1, rfl, h1, o1⟩
  rw [← hp'.out] at o1
  have h1' := Lib.hid h1
  have o1' := Lib.hid o1
  clear h1 o1 h'
  go_wp2_with (at_builtin; refine stp ?_)
  unfold Stp
  refine wpl_append (m := l.length) (news := u8s l) rfl (.tmp 7) (.tmp 8) rfl et27 rfl rfl h1'.out o1'.out ((hr'.out.cons _).cons _) (u8s_one l) (by omega) (by omega) ?_
  intro A2 c2 w2 S2 h2 o2
  have e1 : 4 + l.length = (p ++ l).length := by rw [List.length_append, hpl]
  have e2 : u8s p ++ u8s l = u8s (p ++ l) := by simp [u8s]
  rw [e1, e2] at o2
  have hcap : (p ++ l).length ≤ c2 := by
    obtain ⟨_, _, q1, q2⟩ := o2.cap
    simp only [Value.slice.injEq] at q1
    omega
  have hcall := tagged_ref (t := 88) h2 (o2.rs _) (by rw [← e1]; omega)
  have hx2 : tagV 88 (p ++ l) = z := by rw [hz'.out, hp'.out]; rfl
  rw [hx2, ← e1] at hcall
  have hcall' := Lib.hid hcall
  clear hx2 e1 e2 hcap h2 o2 hpl h1' o1' hcall
  go_wp2_with fail
  refine hcall'.out.mono ?_
  rintro e w3 ⟨rfl, h3⟩
  have h3' := Lib.hid h3
  clear h3 hcall'
  go_wp2_with (with_reducible refine stp_store ?_)
  refine wpl_storeAgg rfl rfl (h3'.out.pick 1 rfl) rfl (by intro v hv; exact u8s_one _ v (by simpa using hv)) (by kernel_rfl) ?_
  intro w6 h10
  have h10' := Lib.hid h10
  clear h10
  go_wp2_with fail
  exact ret_arr (p := 4) (by kernel_rfl) rfl rfl h10'.out rfl ⟨rfl, h10'.out.drop.drop⟩

end Go.Proofs.Ytfhoblchgeijkaa

/-! part Jp -/
namespace Go.Proofs.Ytfhoblchgeijkaa
open Go.RowKit Go.Maps
variable {W w : World} {L T : List Seg} {S : Seg}

/-- The frame of a record. -/
def frameV (x : UInt64) (l : List UInt8) : List UInt8 := b4 (UInt64.ofNat l.length) ++ ofB (chk x l) ++ l
theorem frameV_len (x : UInt64) (l : List UInt8) : (frameV x l).length = 12 + l.length := by simp [frameV, b4_len, ofB_len]; omega

set_option maxRecDepth 100000 in
set_option maxHeartbeats 1600000 in
theorem frame_pro (x : UInt64) {A : Option Addr} {c : Nat} {l : List UInt8} (h : H W w L) (hr : RS L 1 (.slice A l.length c) l.length (u8s l)) (hl : l.length ≤ 1099511620000) (hxl : x.toNat < 9223372036854775808) :
    Calls Try.prog 56 #[.int .i64 x.toNat, .slice A l.length c] w (PBytes W L (frameV x l).length (u8s (frameV x l))) := by
  obtain ⟨z, hz⟩ : ∃ z, z = chk x l := ⟨_, rfl⟩
  obtain ⟨y, hy⟩ : ∃ y, y = UInt64.ofNat l.length := ⟨_, rfl⟩
  have hly : (l.length : Int) = (y.toNat : Int) := by
    rw [hy, UInt64.toNat_ofNat']; omega
  obtain ⟨q, hq⟩ : ∃ q, q = b4 y := ⟨_, rfl⟩
  have hql : q.length = 4 := by rw [hq]; rfl
  have hfr : frameV x l = q ++ ofB z ++ l := by rw [hq, hy, hz]; rfl
  have hcall := chk_pro x h hr hl hxl
  rw [← hz] at hcall
  have hcall' := Lib.hid hcall
  have hfr' := Lib.hid hfr
  have hr' := Lib.hid hr
  have hq' := Lib.hid hq
  have hly' := Lib.hid hly
  have hwx := w64id y
  have hwl : IntKind.u64.wrap (l.length : Int) = (y.toNat : Int) := by rw [hly]; exact hwx
  clear h hr hq hy hz hfr hcall hly hwx
  go_enter Try.func56, Try.ntmps56
  go_wp2_with fail
  refine hcall'.out.mono ?_
  rintro e w1 ⟨rfl, h1⟩
  have h1' := Lib.hid h1
  clear h1 hcall'
  go_wp2_with (with_reducible refine stp_store ?_)
  refine wpl_storeAgg rfl rfl h1'.out.arr rfl (by intro v hv; exact u8s_one _ v (by simpa using hv)) (by kernel_rfl) ?_
  intro w3 h3
  have h3' := Lib.hid h3
  have hrz : ∀ S1, RS (S1 :: [(w1.heap.size, .cells (u8s (ofB z)).toArray 95 (0, 0))] :: L) 1 (.slice (some ⟨w1.heap.size, 0, none⟩) 8 8) 8 (u8s (ofB z)) := fun S1 =>
    ⟨rfl, .inr ⟨w1.heap.size, 0, 8, (u8s (ofB z)).toArray, 95, (0, 0), rfl, by simp, fun j u hu => by simpa using hu⟩⟩
  have hrz := Lib.hid hrz
  clear h3 h1'
  go_wp2_with fail
  refine wpF_start (S := (fun w' => H W w' ([(w1.heap.size, .cells (u8s (ofB z)).toArray 95 (0, 0))] :: L))) (fins := []) (by kernel_rfl) ?_ (fun hHeld => ?_)
  · exact h3'.out.drew
  refine wpF_take 0 (v := ?_) hHeld (by simp only [List.getElem?_toArray, List.getElem?_cons_zero]; exact rfl) (by kernel_rfl) (by exact fun _ _ _ h => h) (by rfl) ?_ ?_
  rotate_left
  · (intro w hSw; (try dsimp only at hSw); go_simp; try with_reducible rfl)
  try simp only [Act.put, List.setIfInBounds_toArray, List.set_cons_zero, List.set_cons_succ]
  refine wpF_take 1 (v := ?_) hHeld (by simp only [List.getElem?_toArray, List.getElem?_cons_succ, List.getElem?_cons_zero]; exact rfl) (by kernel_rfl) (by exact fun _ _ _ h => h) (by rfl) ?_ ?_
  rotate_left
  · (intro w hSw; (try dsimp only at hSw); go_simp; try with_reducible rfl)
  try simp only [Act.put, List.setIfInBounds_toArray, List.set_cons_zero, List.set_cons_succ]
  refine wpF_take 2 (v := ?_) hHeld (by simp only [List.getElem?_toArray, List.getElem?_cons_succ, List.getElem?_cons_zero]; exact rfl) (by kernel_rfl) (by exact fun _ _ _ h => h) (by rfl) ?_ ?_
  rotate_left
  · (intro w hSw; (try dsimp only at hSw); go_simp; try with_reducible rfl)
  try simp only [Act.put, List.setIfInBounds_toArray, List.set_cons_zero, List.set_cons_succ]
  refine wpF_take 4 (v := ?_) hHeld (by simp only [List.getElem?_toArray, List.getElem?_cons_succ, List.getElem?_cons_zero]; exact rfl) (by kernel_rfl) (by exact fun _ _ _ h => h) (by rfl) ?_ ?_
  rotate_left
  · (intro w hSw; (try dsimp only at hSw); go_simp; try with_reducible rfl)
  try simp only [Act.put, List.setIfInBounds_toArray, List.set_cons_zero, List.set_cons_succ]
  refine wpF_one 3 (by simp only [List.getElem?_toArray, List.getElem?_cons_succ, List.getElem?_cons_zero]; exact rfl) (by kernel_rfl) (fun K hK => ?_)
  go_simp
  try rw [hly]
  refine (au_pro y hHeld).mono ?_
  rintro e w5 ⟨A1, c1, S1, rfl, h5, o5⟩
  refine hK _ _ ?_ (fun hHeld => ?_)
  · exact h5.drop
  clear hK K
  try simp only [Act.put, List.setIfInBounds_toArray, List.set_cons_zero, List.set_cons_succ]
  refine wpF_one 5 (by simp only [List.getElem?_toArray, List.getElem?_cons_succ, List.getElem?_cons_zero]; exact rfl) (by kernel_rfl) (fun K hK => ?_)
  refine step_append (m := 8) (news := u8s (ofB z)) rfl (.tmp 13) (.tmp 14) rfl et27 (by simp [Act.eval]) (by simp [Act.eval]) h5 o5 (hrz.out S1) (u8s_one _) (by omega) (by omega) ?_
  intro A2 c2 w6 S2 h6 o6
  refine hK _ _ ?_ (fun hHeld => ?_)
  · exact h6.drop
  clear hK K
  try simp only [Act.put, List.setIfInBounds_toArray, List.set_cons_zero, List.set_cons_succ]
  refine wpF_take 6 (v := ?_) hHeld (by simp only [List.getElem?_toArray, List.getElem?_cons_succ, List.getElem?_cons_zero]; exact rfl) (by kernel_rfl) (by exact fun _ _ _ h => h) (by rfl) ?_ ?_
  rotate_left
  · (intro w hSw; (try dsimp only at hSw); go_simp; try with_reducible rfl)
  try simp only [Act.put, List.setIfInBounds_toArray, List.set_cons_zero, List.set_cons_succ]
  refine wpF_done (by kernel_rfl) ?_
  rw [← hq'.out] at o6
  have e1 : 4 + 8 = (q ++ ofB z).length := by rw [List.length_append, hql]; rfl
  have e2 : u8s q ++ u8s (ofB z) = u8s (q ++ ofB z) := by simp [u8s]
  have h6' := Lib.hid h6
  have o6' := Lib.hid o6
  have e1' := Lib.hid e1
  have e2' := Lib.hid e2
  clear h6 o6 h5 o5 hHeld e1 e2 hrz h3' 
  go_wp2_with (at_builtin; refine stp ?_)
  unfold Stp
  refine wpl_append (m := l.length) (news := u8s l) rfl (.tmp 16) (.tmp 17) rfl et27 rfl rfl h6'.out o6'.out ((hr'.out.cons _).cons _) (u8s_one l) (by omega) (by omega) ?_
  intro A3 c3 w7 S3 h7 o7
  have h7' := Lib.hid h7
  have e3 : 4 + 8 + l.length = (frameV x l).length := by rw [hfr'.out, List.length_append, ← e1'.out]
  have e4 : u8s q ++ u8s (ofB z) ++ u8s l = u8s (frameV x l) := by rw [hfr'.out, e2'.out]; simp [u8s]
  rw [e3, e4] at o7
  have e5 : 12 + l.length = (frameV x l).length := by rw [← e3]
  have o7' := Lib.hid o7
  have e5' := Lib.hid e5
  clear h7 o7 h6' o6' e3 e4 e5
  go_wp2_with fail
  go_ret
  rw [e5'.out]
  exact ⟨_, _, S3, rfl, h7'.out.pop2, o7'.out⟩

set_option maxRecDepth 100000 in
set_option maxHeartbeats 1600000 in
theorem frame_ref (x : UInt64) {A : Option Addr} {c : Nat} {l : List UInt8} (h : H W w L) (hr : RS L 1 (.slice A l.length c) l.length (u8s l)) (hl : l.length ≤ 1099511620000) (hxl : x.toNat < 9223372036854775808) :
    Calls Try.prog 63 #[.int .i64 x.toNat, .slice A l.length c] w (PBytes W L (frameV x l).length (u8s (frameV x l))) := by
  obtain ⟨z, hz⟩ : ∃ z, z = chk x l := ⟨_, rfl⟩
  obtain ⟨y, hy⟩ : ∃ y, y = UInt64.ofNat l.length := ⟨_, rfl⟩
  have hly : (l.length : Int) = (y.toNat : Int) := by
    rw [hy, UInt64.toNat_ofNat']; omega
  obtain ⟨q, hq⟩ : ∃ q, q = b4 y := ⟨_, rfl⟩
  have hql : q.length = 4 := by rw [hq]; rfl
  have hfr : frameV x l = q ++ ofB z ++ l := by rw [hq, hy, hz]; rfl
  have hcall := chk_ref x h hr hl hxl
  rw [← hz] at hcall
  have hcall' := Lib.hid hcall
  have hfr' := Lib.hid hfr
  have hr' := Lib.hid hr
  have hq' := Lib.hid hq
  have hly' := Lib.hid hly
  have hwx := w64id y
  have hwl : IntKind.u64.wrap (l.length : Int) = (y.toNat : Int) := by rw [hly]; exact hwx
  clear h hr hq hy hz hfr hcall hly hwx
  go_enter Try.func63, Try.ntmps63
  go_wp2_with fail
  refine hcall'.out.mono ?_
  rintro e w1 ⟨rfl, h1⟩
  have h1' := Lib.hid h1
  clear h1 hcall'
  go_wp2_with (with_reducible refine stp_store ?_)
  refine wpl_storeAgg rfl rfl h1'.out.arr rfl (by intro v hv; exact u8s_one _ v (by simpa using hv)) (by kernel_rfl) ?_
  intro w3 h3
  have h3' := Lib.hid h3
  have hrz : ∀ S1, RS (S1 :: [(w1.heap.size, .cells (u8s (ofB z)).toArray 95 (0, 0))] :: L) 1 (.slice (some ⟨w1.heap.size, 0, none⟩) 8 8) 8 (u8s (ofB z)) := fun S1 =>
    ⟨rfl, .inr ⟨w1.heap.size, 0, 8, (u8s (ofB z)).toArray, 95, (0, 0), rfl, by simp, fun j u hu => by simpa using hu⟩⟩
  have hrz := Lib.hid hrz
  clear h3 h1'
  go_wp2_with fail
  refine wpF_start (S := (fun w' => H W w' ([(w1.heap.size, .cells (u8s (ofB z)).toArray 95 (0, 0))] :: L))) (fins := []) (by kernel_rfl) ?_ (fun hHeld => ?_)
  · exact h3'.out.drew
  refine wpF_take 0 (v := ?_) hHeld (by simp only [List.getElem?_toArray, List.getElem?_cons_zero]; exact rfl) (by kernel_rfl) (by exact fun _ _ _ h => h) (by rfl) ?_ ?_
  rotate_left
  · (intro w hSw; (try dsimp only at hSw); go_simp; try with_reducible rfl)
  try simp only [Act.put, List.setIfInBounds_toArray, List.set_cons_zero, List.set_cons_succ]
  refine wpF_take 1 (v := ?_) hHeld (by simp only [List.getElem?_toArray, List.getElem?_cons_succ, List.getElem?_cons_zero]; exact rfl) (by kernel_rfl) (by exact fun _ _ _ h => h) (by rfl) ?_ ?_
  rotate_left
  · (intro w hSw; (try dsimp only at hSw); go_simp; try with_reducible rfl)
  try simp only [Act.put, List.setIfInBounds_toArray, List.set_cons_zero, List.set_cons_succ]
  refine wpF_take 2 (v := ?_) hHeld (by simp only [List.getElem?_toArray, List.getElem?_cons_succ, List.getElem?_cons_zero]; exact rfl) (by kernel_rfl) (by exact fun _ _ _ h => h) (by rfl) ?_ ?_
  rotate_left
  · (intro w hSw; (try dsimp only at hSw); go_simp; try with_reducible rfl)
  try simp only [Act.put, List.setIfInBounds_toArray, List.set_cons_zero, List.set_cons_succ]
  refine wpF_take 4 (v := ?_) hHeld (by simp only [List.getElem?_toArray, List.getElem?_cons_succ, List.getElem?_cons_zero]; exact rfl) (by kernel_rfl) (by exact fun _ _ _ h => h) (by rfl) ?_ ?_
  rotate_left
  · (intro w hSw; (try dsimp only at hSw); go_simp; try with_reducible rfl)
  try simp only [Act.put, List.setIfInBounds_toArray, List.set_cons_zero, List.set_cons_succ]
  refine wpF_one 3 (by simp only [List.getElem?_toArray, List.getElem?_cons_succ, List.getElem?_cons_zero]; exact rfl) (by kernel_rfl) (fun K hK => ?_)
  go_simp
  try rw [hly]
  refine (au_ref y hHeld).mono ?_
  rintro e w5 ⟨A1, c1, S1, rfl, h5, o5⟩
  refine hK _ _ ?_ (fun hHeld => ?_)
  · exact h5.drop
  clear hK K
  try simp only [Act.put, List.setIfInBounds_toArray, List.set_cons_zero, List.set_cons_succ]
  refine wpF_one 5 (by simp only [List.getElem?_toArray, List.getElem?_cons_succ, List.getElem?_cons_zero]; exact rfl) (by kernel_rfl) (fun K hK => ?_)
  refine step_append (m := 8) (news := u8s (ofB z)) rfl (.tmp 13) (.tmp 14) rfl et27 (by simp [Act.eval]) (by simp [Act.eval]) h5 o5 (hrz.out S1) (u8s_one _) (by omega) (by omega) ?_
  intro A2 c2 w6 S2 h6 o6
  refine hK _ _ ?_ (fun hHeld => ?_)
  · exact h6.drop
  clear hK K
  try simp only [Act.put, List.setIfInBounds_toArray, List.set_cons_zero, List.set_cons_succ]
  refine wpF_take 6 (v := ?_) hHeld (by simp only [List.getElem?_toArray, List.getElem?_cons_succ, List.getElem?_cons_zero]; exact rfl) (by kernel_rfl) (by exact fun _ _ _ h => h) (by rfl) ?_ ?_
  rotate_left
  · (intro w hSw; (try dsimp only at hSw); go_simp; try with_reducible rfl)
  try simp only [Act.put, List.setIfInBounds_toArray, List.set_cons_zero, List.set_cons_succ]
  refine wpF_done (by kernel_rfl) ?_
  rw [← hq'.out] at o6
  have e1 : 4 + 8 = (q ++ ofB z).length := by rw [List.length_append, hql]; rfl
  have e2 : u8s q ++ u8s (ofB z) = u8s (q ++ ofB z) := by simp [u8s]
  have h6' := Lib.hid h6
  have o6' := Lib.hid o6
  have e1' := Lib.hid e1
  have e2' := Lib.hid e2
  clear h6 o6 h5 o5 hHeld e1 e2 hrz h3' 
  go_wp2_with (at_builtin; refine stp ?_)
  unfold Stp
  refine wpl_append (m := l.length) (news := u8s l) rfl (.tmp 16) (.tmp 17) rfl et27 rfl rfl h6'.out o6'.out ((hr'.out.cons _).cons _) (u8s_one l) (by omega) (by omega) ?_
  intro A3 c3 w7 S3 h7 o7
  have h7' := Lib.hid h7
  have e3 : 4 + 8 + l.length = (frameV x l).length := by rw [hfr'.out, List.length_append, ← e1'.out]
  have e4 : u8s q ++ u8s (ofB z) ++ u8s l = u8s (frameV x l) := by rw [hfr'.out, e2'.out]; simp [u8s]
  rw [e3, e4] at o7
  have e5 : 12 + l.length = (frameV x l).length := by rw [← e3]
  have o7' := Lib.hid o7
  have e5' := Lib.hid e5
  clear h7 o7 h6' o6' e3 e4 e5
  go_wp2_with fail
  go_ret
  rw [e5'.out]
  exact ⟨_, _, S3, rfl, h7'.out.pop2, o7'.out⟩

end Go.Proofs.Ytfhoblchgeijkaa

/-! part Jq -/
namespace Go.Proofs.Ytfhoblchgeijkaa
open Go.RowKit Go.Maps

/-! Parse, as data. -/
def lenAt (c : Bs) (at' : Nat) : Nat := (numB (sub c at' (at' + 4))).toNat
/-- The record at an offset. -/
def stepP (c : Bs) (k at' : Nat) : Option Bs :=
  if at' + 12 ≤ c.length ∧ lenAt c at' ≤ 65536 ∧ at' + 12 + lenAt c at' ≤ c.length ∧ ofB (chk (UInt64.ofNat k) (sub c (at' + 12) (at' + 12 + lenAt c at'))) = sub c (at' + 4) (at' + 12)
  then some (sub c (at' + 12) (at' + 12 + lenAt c at')) else none
theorem stepP_len {c : Bs} {k at' : Nat} {b : Bs} (h : stepP c k at' = some b) : at' + 12 + b.length ≤ c.length ∧ b.length ≤ 65536 := by
  unfold stepP at h
  split at h
  · rename_i hc
    obtain ⟨h1, h2, h3, _⟩ := hc
    simp only [Option.some.injEq] at h
    rw [← h, sub_len h3]
    omega
  · simp at h
def parseV (c : Bs) (k at' : Nat) : List Bs × Nat :=
  match h : stepP c k at' with
  | none => ([], at')
  | some b => (b :: (parseV c (k + 1) (at' + 12 + b.length)).1, (parseV c (k + 1) (at' + 12 + b.length)).2)
  termination_by c.length - at'
  decreasing_by
    all_goals have := (stepP_len h).1; omega
theorem parseV_none {c : Bs} {k at' : Nat} (h : stepP c k at' = none) : parseV c k at' = ([], at') := by
  rw [parseV]; split
  · rfl
  · rename_i b hb; rw [h] at hb; simp at hb
theorem parseV_some {c : Bs} {k at' : Nat} {b : Bs} (h : stepP c k at' = some b) : parseV c k at' = (b :: (parseV c (k + 1) (at' + 12 + b.length)).1, (parseV c (k + 1) (at' + 12 + b.length)).2) := by
  rw [parseV]; split
  · rename_i hb; rw [h] at hb; simp at hb
  · rename_i b' hb; rw [h] at hb; simp only [Option.some.injEq] at hb; subst hb; rfl

/-- So far ls was read, and the offset is at'. -/
def AtP (c : Bs) (ls : List Bs) (at' : Nat) : Prop := at' ≤ c.length ∧ 12 * ls.length ≤ at' ∧ parseV c 0 0 = (ls ++ (parseV c ls.length at').1, (parseV c ls.length at').2)
theorem AtP.start (c : Bs) : AtP c [] 0 := ⟨by omega, by simp, by simp⟩
theorem AtP.step {c : Bs} {ls : List Bs} {at' : Nat} {b : Bs} (h : AtP c ls at') (hs : stepP c ls.length at' = some b) : AtP c (ls ++ [b]) (at' + 12 + b.length) := by
  obtain ⟨h1, h2, h3⟩ := h
  have := stepP_len hs
  refine ⟨this.1, by simp; omega, ?_⟩
  rw [h3, parseV_some hs]
  simp
theorem AtP.stop {c : Bs} {ls : List Bs} {at' : Nat} (h : AtP c ls at') (hs : stepP c ls.length at' = none) : parseV c 0 0 = (ls, at') := by
  obtain ⟨h1, h2, h3⟩ := h
  rw [h3, parseV_none hs]
  simp

/-! A list of byte strings, each in a row of its own. -/
structure RR where
  v : Value
  l : Bs
  S : Seg
def RR.ok (r : RR) : Prop := OB r.v r.l r.S ∧ r.l.length ≤ 1099511627776
def Rows (v : Value) (ls : List Bs) (SO SI : Seg) : Prop :=
  ∃ rs : List RR, OwnS 27 1 v ls.length (rs.map RR.v) SO ∧ rs.map RR.l = ls ∧ (∀ r ∈ rs, r.ok) ∧ SI = rs.flatMap RR.S

theorem i27 : (Try.prog.info? 27).map (fun i => (i.zero, i.size, i.bytes)) = some (some (.slice none 0 0), 1, 24) := by kernel_rfl
theorem et22 : ET Try.prog 22 27 1 24 := by
  obtain ⟨i, hi, h1, h2, h3⟩ := info_parts i27
  exact ⟨i, _, Try.underlying22, hi, h1, h2, h3, rfl, by decide⟩

variable {W w : World} {L T : List Seg} {S SO SI : Seg} {v : Value} {ls : List Bs}

theorem Rows.nil : Rows (.slice Option.none 0 0) [] [] [] := ⟨[], OwnS.nil 27 1, rfl, by simp, rfl⟩
theorem Rows.cap (h : Rows v ls SO SI) : ∃ A c, v = .slice A ls.length c ∧ ls.length ≤ c := by
  obtain ⟨rs, h1, _⟩ := h
  exact h1.cap
theorem Rows.own (h : Rows v ls SO SI) : ∃ xs, OwnS 27 1 v ls.length xs SO := by
  obtain ⟨rs, h1, _⟩ := h
  exact ⟨_, h1⟩
/-- One more. -/
theorem Rows.more (h : Rows v ls SO SI) : ∃ xs, OwnS 27 1 v ls.length xs SO ∧ ∀ (v' x : Value) (l : Bs) (SN SO' : Seg), OB x l SN → l.length ≤ 1099511627776 → OwnS 27 1 v' (ls.length + 1) (xs ++ [x]) SO' → Rows v' (ls ++ [l]) SO' (SI ++ SN) := by
  obtain ⟨rs, h1, h2, h3, h4⟩ := h
  refine ⟨_, h1, fun v' x l SN SO' hx hl ho => ?_⟩
  refine ⟨rs ++ [⟨x, l, SN⟩], ?_, by simp [h2], ?_, by simp [h4]⟩
  · simpa using ho
  · intro r hr
    rcases List.mem_append.1 hr with hr | hr
    · exact h3 r hr
    · simp at hr; subst hr; exact ⟨hx, hl⟩

/-- v reads as a list of byte strings. -/
def RRows (L : List Seg) (v : Value) (ls : List Bs) : Prop := ∃ xs : List Value, RS L 1 v ls.length xs ∧ ls.length ≤ 1099511627776 ∧ ∀ (i : Nat) (l : Bs), ls[i]? = some l → ∃ x, xs[i]? = some x ∧ RL L x l ∧ l.length ≤ 1099511627776
theorem RRows.mono {L' : List Seg} (h : RRows L v ls) (hs : ∀ p ∈ L.flatten, p ∈ L'.flatten) : RRows L' v ls := by
  obtain ⟨xs, h1, h2, h3⟩ := h
  refine ⟨xs, h1.mono hs, h2, fun i l hl => ?_⟩
  obtain ⟨x, h4, h5, h6⟩ := h3 i l hl
  exact ⟨x, h4, h5.mono hs, h6⟩
theorem RRows.cons (h : RRows L v ls) (A : Seg) : RRows (A :: L) v ls := h.mono (fun p hp => by simp only [List.flatten_cons, List.mem_append]; exact .inr hp)
theorem RRows.form (h : RRows L v ls) : ∃ A c, v = .slice A ls.length c := by
  obtain ⟨xs, h1, _⟩ := h
  exact h1.form
theorem Rows.reads (h : Rows v ls SO SI) (hn : ls.length ≤ 1099511627776) (L : List Seg) : RRows (SO :: SI :: L) v ls := by
  obtain ⟨rs, h1, h2, h3, h4⟩ := h
  refine ⟨rs.map RR.v, h1.rs _, hn, fun i l hl => ?_⟩
  rw [← h2, List.getElem?_map] at hl
  simp only [Option.map_eq_some_iff] at hl
  obtain ⟨r, hr, rfl⟩ := hl
  have hm : r ∈ rs := List.mem_of_getElem? hr
  refine ⟨r.v, by rw [List.getElem?_map, hr]; rfl, ⟨by have := (h3 r hm).2; omega, ?_⟩, (h3 r hm).2⟩
  refine ((h3 r hm).1.rs []).mono ?_
  intro p hp
  simp only [List.flatten_cons, List.flatten_nil, List.append_nil] at hp
  simp only [List.flatten_cons, List.mem_append]
  exact .inr (.inl (by rw [h4]; exact List.mem_flatMap.2 ⟨r, hm, hp⟩))

set_option maxRecDepth 100000 in
set_option maxHeartbeats 1600000 in
/-- bytes.Equal -/
theorem equal_pro {v1 v2 : Value} {a b : Bs} (h : H W w L) (h1 : RL L v1 a) (h2 : RL L v2 b) : Calls Try.prog 59 #[v1, v2] w (PBool (a == b) fun w' => w = w') := by
  have c1 := RL.conv h h1
  have c2 := RL.conv h h2
  have ke := bstr_toList
  obtain ⟨A1, cc1, rfl⟩ := h1.2.form
  obtain ⟨A2, cc2, rfl⟩ := h2.2.form
  clear h h1 h2
  go_enter Try.func59, Try.ntmps59
  go_wp2_with fail
  go_ret
  exact ⟨rfl, rfl⟩
end Go.Proofs.Ytfhoblchgeijkaa

/-! part Jr -/
namespace Go.Proofs.Ytfhoblchgeijkaa
open Go.RowKit Go.Maps
variable {W w : World} {L T : List Seg} {S SO SI : Seg} {v : Value} {ls : List Bs}

set_option maxRecDepth 100000 in
set_option maxHeartbeats 1600000 in
/-- rows(a, b) of the law. -/
theorem rows_any {v1 v2 : Value} {a b : List Bs} (h : H W w L) (h1 : RRows L v1 a) (h2 : RRows L v2 b) : Calls Try.prog 27 #[v1, v2] w (PBool (decide (a = b)) fun w' => H W w' L) := by
  obtain ⟨A1, c1, rfl⟩ := h1.form
  obtain ⟨A2, c2, rfl⟩ := h2.form
  obtain ⟨xs1, r1, n1, e1⟩ := h1
  obtain ⟨xs2, r2, n2, e2⟩ := h2
  have h' := Lib.hid h
  have r1' := Lib.hid r1
  have r2' := Lib.hid r2
  have e1' := Lib.hid e1
  have e2' := Lib.hid e2
  clear h r1 r2 e1 e2
  by_cases hn : a.length = b.length
  · obtain ⟨n, hn'⟩ : ∃ n, n = a.length := ⟨_, rfl⟩
    have hb : b.length = n := by omega
    rw [← hn'] at r1' n1
    rw [hb] at r2' n2
    rw [← hn', hb]
    have hn1 := Lib.hid hn'
    have hb1 := Lib.hid hb
    clear hn hn' hb
    go_enter Try.func27, Try.ntmps27
    go_wp2_with fail
    go_loopw [5] (fun i wr => ∃ k : Nat, k ≤ n ∧ i = .int .i64 k ∧ H W wr L ∧ a.take k = b.take k) (fun i _ => n - (intOf i).toNat)
    case atStart => exact ⟨0, by omega, rfl, h'.out, rfl⟩
    case round =>
      obtain ⟨i, hi, rfl, hw, heq⟩ := hrel
      have hw' := Lib.hid hw
      have heq' := Lib.hid heq
      clear hw h' heq
      by_cases hlt : i < n
      · have hji : (i : Int) < (n : Int) := by omega
        obtain ⟨a1, ha1⟩ : ∃ a1, a[i]? = some a1 := ⟨_, List.getElem?_eq_getElem (by rw [← hn1.out]; exact hlt)⟩
        obtain ⟨a2, ha2⟩ : ∃ a2, b[i]? = some a2 := ⟨_, List.getElem?_eq_getElem (by rw [hb1.out]; exact hlt)⟩
        obtain ⟨x1, hx1, hl1, _⟩ := e1'.out i a1 ha1
        obtain ⟨x2, hx2, hl2, _⟩ := e2'.out i a2 ha2
        obtain ⟨X1, y1, rfl⟩ := hl1.2.form
        obtain ⟨X2, y2, rfl⟩ := hl2.2.form
        obtain ⟨g1, o1, rfl, hc1⟩ := r1'.out.get (by omega)
        obtain ⟨g2, o2, rfl, hc2⟩ := r2'.out.get (by omega)
        have hc1' := hc1
        have hc2' := hc2
        have hx1 := Lib.hid hx1
        have hx2 := Lib.hid hx2
        have hl1 := Lib.hid hl1
        have hl2 := Lib.hid hl2
        have ha1' := Lib.hid ha1
        have ha2' := Lib.hid ha2
        have kn := bstr_toList
        cases he : a1 == a2 with
        | true =>
          have hes : a.take (i + 1) = b.take (i + 1) := by
            rw [List.take_add_one, List.take_add_one, heq'.out, ha1'.out, ha2'.out, eq_of_beq he]
          have hes' := Lib.hid hes
          clear hes ha1 ha2 hc1 hc2
          go_wp2_with fail
          refine wpF_start (S := (fun w' => w'.cell? ⟨g1, o1 + i, none⟩ = some (.slice X1 a1.length y1) ∧ w'.cell? ⟨g2, o2 + i, none⟩ = some (.slice X2 a2.length y2) ∧ (convert 27 9 (.slice X1 a1.length y1)).run Try.prog w' = .ok (.string (bstr a1)) w' ∧ (convert 27 9 (.slice X2 a2.length y2)).run Try.prog w' = .ok (.string (bstr a2)) w')) (fins := []) (by kernel_rfl) ?_ (fun hHeld => ?_)
          · exact ⟨hc1' W _ hw'.out.drew i _ hx1.out, hc2' W _ hw'.out.drew i _ hx2.out, RL.conv hw'.out.drew hl1.out, RL.conv hw'.out.drew hl2.out⟩
          refine wpF_take 0 (v := ?_) hHeld (by simp only [List.getElem?_toArray, List.getElem?_cons_zero]; exact rfl) (by kernel_rfl) (by exact fun _ _ _ h => h) (by rfl) ?_ ?_
          rotate_left
          · (intro w hSw; (try dsimp only at hSw); go_simp; try with_reducible rfl)
          try simp only [Act.put, List.setIfInBounds_toArray, List.set_cons_zero, List.set_cons_succ]
          refine wpF_take 1 (v := ?_) hHeld (by simp only [List.getElem?_toArray, List.getElem?_cons_succ, List.getElem?_cons_zero]; exact rfl) (by kernel_rfl) (by exact fun _ _ _ h => h) (by rfl) ?_ ?_
          rotate_left
          · (intro w hSw; (try dsimp only at hSw); go_simp; try with_reducible rfl)
          try simp only [Act.put, List.setIfInBounds_toArray, List.set_cons_zero, List.set_cons_succ]
          refine wpF_take 2 (v := ?_) hHeld (by simp only [List.getElem?_toArray, List.getElem?_cons_succ, List.getElem?_cons_zero]; exact rfl) (by kernel_rfl) (by exact fun _ _ _ h => h) (by rfl) ?_ ?_
          rotate_left
          · (intro w hSw; (try dsimp only at hSw); go_simp; try with_reducible rfl)
          try simp only [Act.put, List.setIfInBounds_toArray, List.set_cons_zero, List.set_cons_succ]
          refine wpF_take 3 (v := ?_) hHeld (by simp only [List.getElem?_toArray, List.getElem?_cons_succ, List.getElem?_cons_zero]; exact rfl) (by kernel_rfl) (by exact fun _ _ _ h => h) (by rfl) ?_ ?_
          rotate_left
          · (intro w hSw; (try dsimp only at hSw); go_simp; try with_reducible rfl)
          try simp only [Act.put, List.setIfInBounds_toArray, List.set_cons_zero, List.set_cons_succ]
          refine wpF_take 4 (v := ?_) hHeld (by simp only [List.getElem?_toArray, List.getElem?_cons_succ, List.getElem?_cons_zero]; exact rfl) (by kernel_rfl) (by exact fun _ _ _ h => h) (by rfl) ?_ ?_
          rotate_left
          · (intro w hSw; (try dsimp only at hSw); go_simp; try with_reducible rfl)
          try simp only [Act.put, List.setIfInBounds_toArray, List.set_cons_zero, List.set_cons_succ]
          refine wpF_take 5 (v := ?_) hHeld (by simp only [List.getElem?_toArray, List.getElem?_cons_succ, List.getElem?_cons_zero]; exact rfl) (by kernel_rfl) (by exact fun _ _ _ h => h) (by rfl) ?_ ?_
          rotate_left
          · (intro w hSw; (try dsimp only at hSw); go_simp; try with_reducible rfl)
          try simp only [Act.put, List.setIfInBounds_toArray, List.set_cons_zero, List.set_cons_succ]
          refine wpF_take 6 (v := ?_) hHeld (by simp only [List.getElem?_toArray, List.getElem?_cons_succ, List.getElem?_cons_zero]; exact rfl) (by kernel_rfl) (by exact fun _ _ _ h => h) (by rfl) ?_ ?_
          rotate_left
          · (intro w hSw; (try dsimp only at hSw); go_simp; try with_reducible rfl)
          try simp only [Act.put, List.setIfInBounds_toArray, List.set_cons_zero, List.set_cons_succ]
          refine wpF_take 7 (v := ?_) hHeld (by simp only [List.getElem?_toArray, List.getElem?_cons_succ, List.getElem?_cons_zero]; exact rfl) (by kernel_rfl) (by exact fun _ _ _ h => h) (by rfl) ?_ ?_
          rotate_left
          · (intro w hSw; (try dsimp only at hSw); go_simp; try with_reducible rfl)
          try simp only [Act.put, List.setIfInBounds_toArray, List.set_cons_zero, List.set_cons_succ]
          refine wpF_take 8 (v := ?_) hHeld (by simp only [List.getElem?_toArray, List.getElem?_cons_succ, List.getElem?_cons_zero]; exact rfl) (by kernel_rfl) (by exact fun _ _ _ h => h) (by rfl) ?_ ?_
          rotate_left
          · (intro w hSw; (try dsimp only at hSw); go_simp; try with_reducible rfl)
          try simp only [Act.put, List.setIfInBounds_toArray, List.set_cons_zero, List.set_cons_succ]
          refine wpF_take 9 (v := ?_) hHeld (by simp only [List.getElem?_toArray, List.getElem?_cons_succ, List.getElem?_cons_zero]; exact rfl) (by kernel_rfl) (by exact fun _ _ _ h => h) (by rfl) ?_ ?_
          rotate_left
          · (intro w hSw; (try dsimp only at hSw); go_simp; try with_reducible rfl)
          try simp only [Act.put, List.setIfInBounds_toArray, List.set_cons_zero, List.set_cons_succ]
          refine wpF_take 10 (v := ?_) hHeld (by simp only [List.getElem?_toArray, List.getElem?_cons_succ, List.getElem?_cons_zero]; exact rfl) (by kernel_rfl) (by exact fun _ _ _ h => h) (by rfl) ?_ ?_
          rotate_left
          · (intro w hSw; (try dsimp only at hSw); go_simp; try with_reducible rfl)
          try simp only [Act.put, List.setIfInBounds_toArray, List.set_cons_zero, List.set_cons_succ]
          refine wpF_done (by kernel_rfl) ?_
          go_wp2_with fail
          exact ⟨⟨i + 1, by omega, by go_num, hw'.out.drew, hes'.out⟩, by simp [intOf]; omega⟩
        | false =>
          have hes : a ≠ b := by
            intro hab
            subst hab
            rw [ha1] at ha2
            simp only [Option.some.injEq] at ha2
            subst ha2
            simp at he
          have hes' := Lib.hid hes
          clear hes ha1 ha2 hc1 hc2
          go_wp2_with fail
          refine wpF_start (S := (fun w' => w'.cell? ⟨g1, o1 + i, none⟩ = some (.slice X1 a1.length y1) ∧ w'.cell? ⟨g2, o2 + i, none⟩ = some (.slice X2 a2.length y2) ∧ (convert 27 9 (.slice X1 a1.length y1)).run Try.prog w' = .ok (.string (bstr a1)) w' ∧ (convert 27 9 (.slice X2 a2.length y2)).run Try.prog w' = .ok (.string (bstr a2)) w')) (fins := []) (by kernel_rfl) ?_ (fun hHeld => ?_)
          · exact ⟨hc1' W _ hw'.out.drew i _ hx1.out, hc2' W _ hw'.out.drew i _ hx2.out, RL.conv hw'.out.drew hl1.out, RL.conv hw'.out.drew hl2.out⟩
          refine wpF_take 0 (v := ?_) hHeld (by simp only [List.getElem?_toArray, List.getElem?_cons_zero]; exact rfl) (by kernel_rfl) (by exact fun _ _ _ h => h) (by rfl) ?_ ?_
          rotate_left
          · (intro w hSw; (try dsimp only at hSw); go_simp; try with_reducible rfl)
          try simp only [Act.put, List.setIfInBounds_toArray, List.set_cons_zero, List.set_cons_succ]
          refine wpF_take 1 (v := ?_) hHeld (by simp only [List.getElem?_toArray, List.getElem?_cons_succ, List.getElem?_cons_zero]; exact rfl) (by kernel_rfl) (by exact fun _ _ _ h => h) (by rfl) ?_ ?_
          rotate_left
          · (intro w hSw; (try dsimp only at hSw); go_simp; try with_reducible rfl)
          try simp only [Act.put, List.setIfInBounds_toArray, List.set_cons_zero, List.set_cons_succ]
          refine wpF_take 2 (v := ?_) hHeld (by simp only [List.getElem?_toArray, List.getElem?_cons_succ, List.getElem?_cons_zero]; exact rfl) (by kernel_rfl) (by exact fun _ _ _ h => h) (by rfl) ?_ ?_
          rotate_left
          · (intro w hSw; (try dsimp only at hSw); go_simp; try with_reducible rfl)
          try simp only [Act.put, List.setIfInBounds_toArray, List.set_cons_zero, List.set_cons_succ]
          refine wpF_take 3 (v := ?_) hHeld (by simp only [List.getElem?_toArray, List.getElem?_cons_succ, List.getElem?_cons_zero]; exact rfl) (by kernel_rfl) (by exact fun _ _ _ h => h) (by rfl) ?_ ?_
          rotate_left
          · (intro w hSw; (try dsimp only at hSw); go_simp; try with_reducible rfl)
          try simp only [Act.put, List.setIfInBounds_toArray, List.set_cons_zero, List.set_cons_succ]
          refine wpF_take 4 (v := ?_) hHeld (by simp only [List.getElem?_toArray, List.getElem?_cons_succ, List.getElem?_cons_zero]; exact rfl) (by kernel_rfl) (by exact fun _ _ _ h => h) (by rfl) ?_ ?_
          rotate_left
          · (intro w hSw; (try dsimp only at hSw); go_simp; try with_reducible rfl)
          try simp only [Act.put, List.setIfInBounds_toArray, List.set_cons_zero, List.set_cons_succ]
          refine wpF_take 5 (v := ?_) hHeld (by simp only [List.getElem?_toArray, List.getElem?_cons_succ, List.getElem?_cons_zero]; exact rfl) (by kernel_rfl) (by exact fun _ _ _ h => h) (by rfl) ?_ ?_
          rotate_left
          · (intro w hSw; (try dsimp only at hSw); go_simp; try with_reducible rfl)
          try simp only [Act.put, List.setIfInBounds_toArray, List.set_cons_zero, List.set_cons_succ]
          refine wpF_take 6 (v := ?_) hHeld (by simp only [List.getElem?_toArray, List.getElem?_cons_succ, List.getElem?_cons_zero]; exact rfl) (by kernel_rfl) (by exact fun _ _ _ h => h) (by rfl) ?_ ?_
          rotate_left
          · (intro w hSw; (try dsimp only at hSw); go_simp; try with_reducible rfl)
          try simp only [Act.put, List.setIfInBounds_toArray, List.set_cons_zero, List.set_cons_succ]
          refine wpF_take 7 (v := ?_) hHeld (by simp only [List.getElem?_toArray, List.getElem?_cons_succ, List.getElem?_cons_zero]; exact rfl) (by kernel_rfl) (by exact fun _ _ _ h => h) (by rfl) ?_ ?_
          rotate_left
          · (intro w hSw; (try dsimp only at hSw); go_simp; try with_reducible rfl)
          try simp only [Act.put, List.setIfInBounds_toArray, List.set_cons_zero, List.set_cons_succ]
          refine wpF_take 8 (v := ?_) hHeld (by simp only [List.getElem?_toArray, List.getElem?_cons_succ, List.getElem?_cons_zero]; exact rfl) (by kernel_rfl) (by exact fun _ _ _ h => h) (by rfl) ?_ ?_
          rotate_left
          · (intro w hSw; (try dsimp only at hSw); go_simp; try with_reducible rfl)
          try simp only [Act.put, List.setIfInBounds_toArray, List.set_cons_zero, List.set_cons_succ]
          refine wpF_take 9 (v := ?_) hHeld (by simp only [List.getElem?_toArray, List.getElem?_cons_succ, List.getElem?_cons_zero]; exact rfl) (by kernel_rfl) (by exact fun _ _ _ h => h) (by rfl) ?_ ?_
          rotate_left
          · (intro w hSw; (try dsimp only at hSw); go_simp; try with_reducible rfl)
          try simp only [Act.put, List.setIfInBounds_toArray, List.set_cons_zero, List.set_cons_succ]
          refine wpF_take 10 (v := ?_) hHeld (by simp only [List.getElem?_toArray, List.getElem?_cons_succ, List.getElem?_cons_zero]; exact rfl) (by kernel_rfl) (by exact fun _ _ _ h => h) (by rfl) ?_ ?_
          rotate_left
          · (intro w hSw; (try dsimp only at hSw); go_simp; try with_reducible rfl)
          try simp only [Act.put, List.setIfInBounds_toArray, List.set_cons_zero, List.set_cons_succ]
          refine wpF_done (by kernel_rfl) ?_
          go_wp2_with fail
          go_ret
          rw [decide_eq_false hes'.out]
          exact ⟨rfl, hw'.out.drew⟩
      · obtain rfl : i = n := by omega
        have hab : a = b := by
          have := heq'.out
          rw [List.take_of_length_le (by rw [← hn1.out]; exact Nat.le_refl _), List.take_of_length_le (by rw [hb1.out]; exact Nat.le_refl _)] at this
          exact this
        have hab' := Lib.hid hab
        have hw2 := hw'
        clear hab
        go_wp2_with fail
        go_ret
        rw [decide_eq_true hab'.out]
        exact ⟨rfl, hw2.out⟩
  · have hab : a ≠ b := fun h => hn (by rw [h])
    rw [decide_eq_false hab]
    clear hab
    have hnn : ¬ (a.length : Int) = (b.length : Int) := by omega
    go_enter Try.func27, Try.ntmps27
    go_wp2_with fail
    go_ret
    exact ⟨rfl, h'.out⟩
end Go.Proofs.Ytfhoblchgeijkaa
