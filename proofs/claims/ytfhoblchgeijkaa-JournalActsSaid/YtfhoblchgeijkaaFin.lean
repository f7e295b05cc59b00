import Derived.OrdersHeld
import Derived.Deep.RegionHeld3
/-! A region that draws its order and ends by a store into a cell that it has read: the condition need not hold behind the last stores ('fins'), if each of them waits for the reads. -/
namespace Go.Proofs.Ytfhoblchgeijkaa
open Go
variable {P : Program} {ops : Array Oper} {Q : Exit → Act → World → Prop} {md : Region.Mode} {S : World → Prop} {fins : List Nat}

def edgeTo (md : Region.Mode) (ops : Array Oper) (f i : Nat) : Bool :=
  match ops[f]? with
  | some o => o.after.any fun e => Region.binds md e && e.on == i
  | none => false

def wpF (P : Program) (md : Region.Mode) (ops : Array Oper) (Q : Exit → Act → World → Prop) (S : World → Prop) (fins : List Nat) : Nat → Array Bool → Act → World → Prop
  | 0, listed, a, w => Region.ready md ops listed = [] ∧ Q .normal a w
  | n + 1, listed, a, w => (Region.ready md ops listed = [] → Q .normal a w) ∧
    ∀ i ∈ Region.ready md ops listed, wpOp P ops Q i (fun a' w' => (fins.contains i = false → S w') ∧ wpF P md ops Q S fins n (listed.setIfInBounds i true) a' w') a w

theorem wpF_any : ∀ (n : Nat) (listed : Array Bool) (a : Act) (w : World), wpF P md ops Q S fins n listed a w → wpAny P md ops Q n listed a w
  | 0, _, _, _, h => h
  | n + 1, _, _, _, h => ⟨h.1, fun i hi => wpOp_mono (fun a' w' h' => wpF_any n _ a' w' h'.2) (h.2 i hi)⟩

theorem edge_listed {f i : Nat} {listed : Array Bool} (he : edgeTo md ops f i = true) (hf : f ∈ Region.ready md ops listed) (hi : i ∈ Region.ready md ops listed) : False := by
  obtain ⟨_, o, ho, hall⟩ := mem_ready.1 hf
  simp only [edgeTo, ho] at he
  obtain ⟨e, hm, hb⟩ := Array.any_eq_true'.1 he
  simp only [Bool.and_eq_true, beq_iff_eq] at hb
  have h1 := hall e hm hb.1
  have h0 := (mem_ready.1 hi).1
  rw [hb.2] at h1
  rcases Nat.lt_or_ge i listed.size with h' | h'
  · simp [h'] at h0 h1; rw [h0] at h1; cases h1
  · simp [Array.getElem?_eq_none h'] at h1

theorem wpF_first {i : Nat} {oi : Oper} {v : Value} (hi : ops[i]? = some oi) (hsel : ∀ (j : Nat) (o : Oper) cs b, ops[j]? = some o → o.op ≠ .select cs b)
    (hQ : ∀ c a w, Q (.panic c) (a.put oi.dst v) w → Q (.panic c) a w) (hed : fins.all (fun f => edgeTo md ops f i) = true) :
    ∀ (n : Nat) (listed : Array Bool) (a : Act) (w : World),
      (∀ j oj, ops[j]? = some oj → j ≠ i → listed.getD j true = false → (∀ e ∈ oj.after, Region.binds md e = true → e.on ≠ i) → oi.apart ops oj = true) →
      i ∈ Region.ready md ops listed → YieldsIf P ops S oi v a → S w →
      wpF P md ops Q S fins n (listed.setIfInBounds i true) (a.put oi.dst v) w → wpF P md ops Q S fins (n + 1) listed a w := by
  intro n
  induction n with
  | zero =>
    intro listed a w _ hr hy hS H
    refine ⟨fun h => (by rw [h] at hr; cases hr), fun j hj => ?_⟩
    by_cases hji : j = i
    · subst hji; exact hy.wpOp hi hS ⟨fun _ => hS, H⟩
    · have := ready_mono hj hji
      rw [H.1] at this
      cases this
  | succ n ih =>
    intro listed a w hfree hr hy hS H
    refine ⟨fun h => (by rw [h] at hr; cases hr), fun j hj => ?_⟩
    by_cases hji : j = i
    · subst hji; exact hy.wpOp hi hS ⟨fun _ => hS, H⟩
    · have hjf : fins.contains j = false := by
        cases hc : fins.contains j with
        | false => rfl
        | true => exact (edge_listed (List.all_eq_true.1 hed j (by simpa using hc)) hj hr).elim
      have h1 := H.2 j (ready_mono hj hji)
      obtain ⟨hjun, oj, hoj, hall⟩ := mem_ready.1 hj
      have hnot : ∀ e ∈ oj.after, Region.binds md e = true → e.on ≠ i := fun e he hb heq => by
        have h1 := hall e he hb
        have h0 := (mem_ready.1 hr).1
        rw [heq] at h1
        rcases Nat.lt_or_ge i listed.size with h' | h'
        · simp [h'] at h0 h1; rw [h0] at h1; cases h1
        · simp [Array.getElem?_eq_none h'] at h1
      have h2 := wpOp_putIf hoj (hfree j oj hoj hji hjun hnot) (fun cs b => hsel i oi cs b hi) (fun cs b => hsel j oj cs b hoj) hQ hy h1
      have hfree' : ∀ k ok, ops[k]? = some ok → k ≠ i → (listed.setIfInBounds j true).getD k true = false →
          (∀ e ∈ ok.after, Region.binds md e = true → e.on ≠ i) → oi.apart ops ok = true := fun k ok hk hki hun hno => by
        refine hfree k ok hk hki ?_ hno
        by_cases hjk : j = k
        · subst hjk; exact hjun
        · rw [getD_set_ne true hjk] at hun; exact hun
      refine wpOp_mono (fun a' w' h3 => ⟨h3.2.1, ih (listed.setIfInBounds j true) a' w' hfree' (ready_mono hr (Ne.symm hji)) h3.1 (h3.2.1 hjf) ?_⟩) h2
      rw [Array.setIfInBounds_comm _ _ hji]
      exact h3.2.2

theorem wpF_take (i : Nat) {oi : Oper} {v : Value} {n : Nat} {listed : Array Bool} {a : Act} {w : World} (hS : S w) (hi : ops[i]? = some oi)
    (hs : (Region.noSelect ops && (Region.free md ops listed i && ((Region.ready md ops listed).contains i && fins.all (fun f => edgeTo md ops f i)))) = true)
    (hQ : ∀ c a w, Q (.panic c) (a.put oi.dst v) w → Q (.panic c) a w) (hw : Region.wanted oi (yielded ops a.tmps) = true) (hy : ∀ w, S w → (execOp a.eval oi).run P w = .ok (.value v) w)
    (h : wpF P md ops Q S fins n (listed.setIfInBounds i true) (a.put oi.dst v) w) : wpF P md ops Q S fins (n + 1) listed a w := by
  simp only [Bool.and_eq_true] at hs
  exact wpF_first hi (Region.noSelect_spec hs.1) hQ hs.2.2.2 n listed a w (Region.free_spec hi hs.2.1) (by simpa using hs.2.2.1) (.inl ⟨hw, hy⟩) hS h

theorem wpF_op {i : Nat} {oi : Oper} {n : Nat} {listed : Array Bool} {a : Act} {w : World} (hi : ops[i]? = some oi)
    (h : ∀ K : Act → World → Prop, (∀ a' w', (fins.contains i = false → S w') → ((fins.contains i = false → S w') → wpF P md ops Q S fins n (listed.setIfInBounds i true) a' w') → K a' w') →
      if Region.wanted oi (yielded ops a.tmps) = true then oi.wp P a w K Q else K (a.put oi.dst undef) w) :
    wpOp P ops Q i (fun a' w' => (fins.contains i = false → S w') ∧ wpF P md ops Q S fins n (listed.setIfInBounds i true) a' w') a w := by
  have := h (fun a' w' => (fins.contains i = false → S w') ∧ wpF P md ops Q S fins n (listed.setIfInBounds i true) a' w') (fun a' w' h1 h2 => ⟨h1, h2 h1⟩)
  unfold wpOp
  simp only [hi]
  split
  · rename_i hw; rw [if_pos hw] at this; exact .inl this
  · rename_i hw; rw [if_neg hw] at this; exact this

/-- The one that may come up, S behind it. -/
theorem wpF_one (i : Nat) {oi : Oper} {n : Nat} {listed : Array Bool} {a : Act} {w : World} (hi : ops[i]? = some oi) (hr : Region.ready md ops listed = [i])
    (h : ∀ K : Act → World → Prop, (∀ a' w', S w' → (S w' → wpF P md ops Q S fins n (listed.setIfInBounds i true) a' w') → K a' w') →
      if Region.wanted oi (yielded ops a.tmps) = true then oi.wp P a w K Q else K (a.put oi.dst undef) w) : wpF P md ops Q S fins (n + 1) listed a w := by
  refine ⟨fun h0 => (by rw [hr] at h0; cases h0), fun j hj => ?_⟩
  rw [hr] at hj
  simp only [List.mem_singleton] at hj
  subst hj
  exact wpF_op hi fun K hK => h K (fun a' w' h1 h2 => hK a' w' (fun _ => h1) (fun _ => h2 h1))

/-- One of the last stores: S is not asked behind it. -/
theorem wpF_last (i : Nat) {oi : Oper} {n : Nat} {listed : Array Bool} {a : Act} {w : World} (hi : ops[i]? = some oi) (hr : Region.ready md ops listed = [i]) (hf : fins.contains i = true)
    (h : ∀ K : Act → World → Prop, (∀ a' w', wpF P md ops Q S fins n (listed.setIfInBounds i true) a' w' → K a' w') →
      if Region.wanted oi (yielded ops a.tmps) = true then oi.wp P a w K Q else K (a.put oi.dst undef) w) : wpF P md ops Q S fins (n + 1) listed a w := by
  refine ⟨fun h0 => (by rw [hr] at h0; cases h0), fun j hj => ?_⟩
  rw [hr] at hj
  simp only [List.mem_singleton] at hj
  subst hj
  exact wpF_op hi fun K hK => h K (fun a' w' h2 => hK a' w' (fun h0 => by rw [hf] at h0; cases h0) (fun _ => h2))

/-- Either of two. -/
theorem wpF_two (i k : Nat) {oi ok : Oper} {n : Nat} {listed : Array Bool} {a : Act} {w : World} (hi : ops[i]? = some oi) (hk : ops[k]? = some ok) (hr : Region.ready md ops listed = [i, k])
    (h : ∀ K : Act → World → Prop, (∀ a' w', S w' → (S w' → wpF P md ops Q S fins n (listed.setIfInBounds i true) a' w') → K a' w') →
      if Region.wanted oi (yielded ops a.tmps) = true then oi.wp P a w K Q else K (a.put oi.dst undef) w)
    (h' : ∀ K : Act → World → Prop, (∀ a' w', S w' → (S w' → wpF P md ops Q S fins n (listed.setIfInBounds k true) a' w') → K a' w') →
      if Region.wanted ok (yielded ops a.tmps) = true then ok.wp P a w K Q else K (a.put ok.dst undef) w) : wpF P md ops Q S fins (n + 1) listed a w := by
  refine ⟨fun h0 => (by rw [hr] at h0; cases h0), fun j hj => ?_⟩
  rw [hr] at hj
  simp only [List.mem_cons, List.not_mem_nil, or_false] at hj
  rcases hj with rfl | rfl
  · exact wpF_op hi fun K hK => h K (fun a' w' h1 h2 => hK a' w' (fun _ => h1) (fun _ => h2 h1))
  · exact wpF_op hk fun K hK => h' K (fun a' w' h1 h2 => hK a' w' (fun _ => h1) (fun _ => h2 h1))

theorem wpF_done {n : Nat} {listed : Array Bool} {a : Act} {w : World} (hr : Region.ready md ops listed = []) (h : Q .normal a w) : wpF P md ops Q S fins n listed a w := by
  cases n with
  | zero => exact ⟨hr, h⟩
  | succ n => exact ⟨fun _ => h, by rw [hr]; simp⟩

theorem wpF_start {id : Nat} {a : Act} {w : World} (S : World → Prop) (fins : List Nat) (hm : P.follows .mixedOrders = true) (hS : S w.drew)
    (h : S w.drew → wpF P .any ops Q S fins ops.size (Array.replicate ops.size false) a w.drew) : (Code.region id ops true).wp P Q a w :=
  wp_region_any hm (wpF_any _ _ _ _ (h hS))
end Go.Proofs.Ytfhoblchgeijkaa
