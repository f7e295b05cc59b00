import Derived.Test.YtfhoblchgeijkaaRows
import Derived.WalkKit
import Derived.WalkSpells
import Derived.WalkLawsBesides
import Derived.Lib.Hide
import Derived.Deep.RegionHeld3
import Derived.Deep.AppendLies
import Derived.Deep.RegionWith
import Derived.Deep.RegionLaw
import Derived.Deep.QuietTactic
import Derived.BigQuiet
import Derived.Deep.DeepCutAuto
namespace Go.Proofs.Ytfhoblchgeijkaa
open Go.RowKit

/-! Blocks that a call holds: a list of segments, each a list of blocks with what they hold. -/
abbrev Seg := List (Nat × Obj)

structure H (W w : World) (L : List Seg) : Prop where
  os : w.os = W.os
  tape : w.tape = W.tape
  output : w.output = W.output
  size : W.heap.size ≤ w.heap.size
  nodup : (L.flatten.map (·.1)).Nodup
  mem : ∀ p ∈ L.flatten, w.heap[p.1]? = some p.2

section
variable {W w w' : World} {L L' : List Seg} {A B S : Seg}

theorem H.lt (h : H W w L) {b : Nat} {o : Obj} (hm : (b, o) ∈ L.flatten) : b < w.heap.size := lt_of_block (h.mem _ hm)

theorem H.cell (h : H W w L) {b : Nat} {c : Array Value} {E : TypeId} {fr : Nat × Nat} (hm : (b, Obj.cells c E fr) ∈ L.flatten) {i : Nat} {v : Value} (hc : c[i]? = some v) :
    w.cell? ⟨b, i, none⟩ = some v := by
  have := h.mem _ hm
  simp [World.cell?, this, hc]

theorem H.free (h : H W w L) {b : Nat} {c : Array Value} {E : TypeId} (hm : (b, Obj.cells c E (0, 0)) ∈ L.flatten) (i : Nat) : w.frozen? ⟨b, i, none⟩ = false := by
  have := h.mem _ hm
  simp [World.frozen?, this]

theorem mem_at {i j : Nat} {s : Seg} {p : Nat × Obj} (hs : L[i]? = some s) (hj : s[j]? = some p) : p ∈ L.flatten :=
  List.mem_flatten.2 ⟨s, List.mem_of_getElem? hs, List.mem_of_getElem? hj⟩
theorem H.cellAt (h : H W w L) (i j k : Nat) {s : Seg} (hs : L[i]? = some s) {b : Nat} {c : Array Value} {E : TypeId} {fr : Nat × Nat} (hj : s[j]? = some (b, Obj.cells c E fr)) {v : Value} (hc : c[k]? = some v) :
    w.cell? ⟨b, k, none⟩ = some v := h.cell (mem_at hs hj) hc
theorem H.freeAt (h : H W w L) (i j k : Nat) {s : Seg} (hs : L[i]? = some s) {b : Nat} {c : Array Value} {E : TypeId} (hj : s[j]? = some (b, Obj.cells c E (0, 0))) : w.frozen? ⟨b, k, none⟩ = false :=
  h.free (mem_at hs hj) k
theorem H.ltAt (h : H W w L) (i j : Nat) {s : Seg} (hs : L[i]? = some s) {b : Nat} {o : Obj} (hj : s[j]? = some (b, o)) : b < w.heap.size := h.lt (mem_at hs hj)

theorem H.neq {S : Seg} (h : H W w (S :: L)) (i j k : Nat) {a b : Nat} {oa ob : Obj} {s : Seg} (ha : S[i]? = some (a, oa)) (hs : L[j]? = some s) (hb : s[k]? = some (b, ob)) : a ≠ b := by
  have hnd := h.nodup
  simp only [List.flatten_cons, List.map_append, List.nodup_append] at hnd
  exact hnd.2.2 a (List.mem_map_of_mem (f := (·.1)) (List.mem_of_getElem? ha)) b (List.mem_map_of_mem (f := (·.1)) (mem_at hs hb))

theorem H.perm (h : H W w L) (hp : L.flatten.Perm L'.flatten) : H W w L' :=
  ⟨h.os, h.tape, h.output, h.size, (hp.map _).nodup_iff.1 h.nodup, fun p hm => h.mem p (hp.mem_iff.2 hm)⟩

theorem H.sub (h : H W w L) (hp : L'.flatten.Sublist L.flatten) : H W w L' :=
  ⟨h.os, h.tape, h.output, h.size, h.nodup.sublist (hp.map _), fun p hm => h.mem p (hp.subset hm)⟩

theorem perm_pick {α : Type} : ∀ (l : List α) (i : Nat) {s : α}, l[i]? = some s → l.Perm (s :: l.eraseIdx i)
  | [], i, s, h => by simp at h
  | a :: l, 0, s, h => by simp at h; subst h; exact List.Perm.refl _
  | a :: l, i + 1, s, h => by
    simp only [List.getElem?_cons_succ] at h
    simp only [List.eraseIdx_cons_succ]
    exact ((perm_pick l i h).cons a).trans (List.Perm.swap s a _)
theorem H.pick (h : H W w L) (i : Nat) {s : Seg} (hs : L[i]? = some s) : H W w (s :: L.eraseIdx i) := h.perm (List.Perm.flatten (perm_pick L i hs))
theorem H.drop (h : H W w (A :: L)) : H W w L := h.sub (by simp)
theorem H.swap (h : H W w (A :: B :: L)) : H W w (B :: A :: L) := h.perm (by
  simp only [List.flatten_cons, ← List.append_assoc]; exact (List.perm_append_comm).append_right _)
theorem H.rot (h : H W w (A :: B :: S :: L)) : H W w (S :: A :: B :: L) := h.perm (by
  simp only [List.flatten_cons, ← List.append_assoc]; refine List.Perm.append_right _ ?_
  refine (List.perm_append_comm (l₁ := A ++ B) (l₂ := S)).trans ?_
  rw [← List.append_assoc])
theorem H.join (h : H W w (A :: B :: L)) : H W w ((A ++ B) :: L) := h.perm (by simp)
theorem H.split (h : H W w ((A ++ B) :: L)) : H W w (A :: B :: L) := h.perm (by simp)
theorem H.nil (h : H W w ([] :: L)) : H W w L := h.perm (by simp)
theorem H.addNil (h : H W w L) : H W w ([] :: L) := h.perm (by simp)

theorem H.drew (h : H W w L) : H W w.drew L := ⟨h.os, h.tape, h.output, h.size, h.nodup, h.mem⟩
theorem H.drewN (h : H W w L) (n : Nat) : H W (w.drewN n) L := ⟨h.os, h.tape, h.output, h.size, h.nodup, h.mem⟩

/-- The general step: what was in A has turned into A', all else stands. -/
theorem H.step (h : H W w (A :: L)) {A' : Seg} (hos : w'.os = w.os) (htape : w'.tape = w.tape) (hout : w'.output = w.output) (hsize : w.heap.size ≤ w'.heap.size)
    (hk : ∀ b, b < w.heap.size → b ∉ A.map (·.1) → w'.heap[b]? = w.heap[b]?) (hn : (A'.map (·.1)).Nodup)
    (hnew : ∀ p ∈ A', p.1 ∈ A.map (·.1) ∨ w.heap.size ≤ p.1) (ha : ∀ p ∈ A', w'.heap[p.1]? = some p.2) : H W w' (A' :: L) := by
  have hnd := h.nodup
  simp only [List.flatten_cons, List.map_append, List.nodup_append] at hnd
  obtain ⟨_, hL, hdis⟩ := hnd
  refine ⟨hos.trans h.os, htape.trans h.tape, hout.trans h.output, Nat.le_trans h.size hsize, ?_, ?_⟩
  · simp only [List.flatten_cons, List.map_append, List.nodup_append]
    refine ⟨hn, hL, fun a ha' b hb => ?_⟩
    obtain ⟨p, hp, rfl⟩ := List.mem_map.1 ha'
    obtain ⟨q, hq, rfl⟩ := List.mem_map.1 hb
    rcases hnew p hp with h1 | h1
    · exact hdis _ h1 _ hb
    · have := h.lt (b := q.1) (o := q.2) (by simp only [List.flatten_cons, List.mem_append]; exact Or.inr hq)
      omega
  · intro p hp
    simp only [List.flatten_cons, List.mem_append] at hp
    rcases hp with hp | hp
    · exact ha p hp
    · have hm : (p.1, p.2) ∈ (A :: L).flatten := by simp only [List.flatten_cons, List.mem_append]; exact Or.inr hp
      rw [hk p.1 (h.lt hm) (fun hin => hdis _ hin _ (List.mem_map_of_mem hp) rfl)]
      exact h.mem _ hm

theorem H.alloc (h : H W w L) (o : Obj) : H W (w.alloc o) ([(w.heap.size, o)] :: L) :=
  h.addNil.step rfl rfl rfl (by simp) (fun b hb _ => Below.heap_alloc _ _ _ hb) (by simp) (by intro p hp; simp at hp; subst hp; exact Or.inr (Nat.le_refl _))
    (by intro p hp; simp at hp; subst hp; exact heap_alloc_new w o)

theorem heap_setCell_same {w : World} {b : Nat} {c : Array Value} {E : TypeId} {fr : Nat × Nat} (h : w.heap[b]? = some (.cells c E fr)) (i : Nat) (v : Value) :
    (w.setCell ⟨b, i, none⟩ v).heap[b]? = some (.cells (c.setIfInBounds i v) E fr) := by
  simp [World.setCell, Array.getElem?_modify, h]

theorem H.setCell {b : Nat} {c : Array Value} {E : TypeId} {fr : Nat × Nat} (h : H W w ([(b, .cells c E fr)] :: L)) (i : Nat) (v : Value) :
    H W (w.setCell ⟨b, i, none⟩ v) ([(b, .cells (c.setIfInBounds i v) E fr)] :: L) :=
  h.step rfl rfl rfl (by simp) (fun k _ hk => Below.heap_setCell _ _ _ _ (by simpa using hk)) (by simp) (by intro p hp; simp at hp; subst hp; simp)
    (by intro p hp; simp at hp; subst hp; exact heap_setCell_same (h.mem (b, .cells c E fr) (by simp)) i v)

theorem H.set3 {b : Nat} {a0 a1 a2 x y z : Value} {E : TypeId} {fr : Nat × Nat} (h : H W w ([(b, .cells #[a0, a1, a2] E fr)] :: L)) :
    H W (((w.setCell ⟨b, 0, none⟩ x).setCell ⟨b, 1, none⟩ y).setCell ⟨b, 2, none⟩ z) ([(b, .cells #[x, y, z] E fr)] :: L) :=
  ((h.setCell 0 x).setCell 1 y).setCell 2 z

/-- Only new blocks were made. -/
theorem H.grow (h : H W w L) (hb : Below w.heap.size w w') : H W w' L :=
  (h.addNil.step (A' := []) hb.os hb.tape hb.output hb.size (fun b hb' _ => hb.block b hb') (by simp) (by simp) (by simp)).nil

/-- A row that the call owns, as a segment. -/
def OwnS (E : TypeId) (size : Nat) (v : Value) (n : Nat) (xs : List Value) (S : Seg) : Prop :=
  xs.length = n * size ∧
  ((v = .slice none 0 0 ∧ n = 0 ∧ S = []) ∨
   ∃ g cap cur, v = .slice (some ⟨g, 0, none⟩) n cap ∧ S = [(g, .cells cur E (0, 0))] ∧ n ≤ cap ∧ cap ≤ maxLen ∧ cur.size = cap * size ∧ cur.toList.take (n * size) = xs)

variable {E : TypeId} {size n : Nat} {v : Value} {xs : List Value}

theorem OwnS.nil (E : TypeId) (size : Nat) : OwnS E size (.slice none 0 0) 0 [] [] := ⟨by simp, .inl ⟨rfl, rfl, rfl⟩⟩

theorem OwnS.row (h : OwnS E size v n xs S) (hH : H W w L) (hm : ∀ p ∈ S, p ∈ L.flatten) : w.ownsRow 0 E size v n xs := by
  refine ⟨h.1, ?_⟩
  rcases h.2 with ⟨h1, h2, _⟩ | ⟨g, cap, cur, h1, rfl, h3, h4, h5, h6⟩
  · exact .inl ⟨h1, h2⟩
  · exact .inr ⟨g, cap, cur, h1, Nat.zero_le _, hH.mem (g, .cells cur E (0, 0)) (hm _ (by simp)), h3, h4, h5, h6⟩

theorem OwnS.row1 (h : OwnS E size v n xs S) (hH : H W w (S :: L)) : w.ownsRow 0 E size v n xs := h.row hH (fun p hp => by simp [hp])

theorem OwnS.form (h : OwnS E size v n xs S) : ∃ A cap, v = .slice A n cap := by
  rcases h.2 with ⟨rfl, rfl, _⟩ | ⟨g, cap, cur, rfl, _⟩
  · exact ⟨none, 0, rfl⟩
  · exact ⟨_, _, rfl⟩

theorem OwnS.block (h : OwnS E size v n xs S) : S.map (·.1) = v.ownBlock.toList := by
  rcases h.2 with ⟨rfl, rfl, rfl⟩ | ⟨g, cap, cur, rfl, rfl, _⟩
  · rfl
  · rfl

/-- A row that owns in w', whose block is new, or the one that S had: S turned into S'. -/
theorem H.grown (h : H W w (S :: L)) (hs : OwnS E size v n xs S) {v' : Value} {n' : Nat} {xs' : List Value} (hown : w'.ownsRow 0 E size v' n' xs') (hg : w.grownBy w' v.ownBlock)
    (hb : v'.ownBlock = v.ownBlock ∨ v'.ownBlock = some w.heap.size) : ∃ S', H W w' (S' :: L) ∧ OwnS E size v' n' xs' S' := by
  rcases hown.2 with ⟨rfl, rfl⟩ | ⟨g, cap, cur, rfl, _, hgc, h3, h4, h5, h6⟩
  · refine ⟨[], ?_, hown.1, .inl ⟨rfl, rfl, rfl⟩⟩
    exact h.step hg.os hg.tape hg.output hg.size (fun b hb' hn => hg.block b hb' (fun e => hn (by rw [hs.block, ← e]; simp))) (by simp) (by simp) (by simp)
  · refine ⟨[(g, .cells cur E (0, 0))], ?_, hown.1, .inr ⟨g, cap, cur, rfl, rfl, h3, h4, h5, h6⟩⟩
    refine h.step hg.os hg.tape hg.output hg.size (fun b hb' hn => hg.block b hb' (fun e => hn (by rw [hs.block, ← e]; simp))) (by simp) ?_ (by intro p hp; simp at hp; subst hp; exact hgc)
    intro p hp
    simp at hp
    subst hp
    rcases hb with hb | hb
    · left; rw [hs.block, ← hb]; simp [Value.ownBlock]
    · right; simp [Value.ownBlock] at hb; simp [hb]

theorem H.new (h : H W w L) (hb : Below w.heap.size w w') (hown : w'.ownsRow w.heap.size E size v n xs) : ∃ S, H W w' (S :: L) ∧ OwnS E size v n xs S := by
  rcases hown.2 with ⟨rfl, rfl⟩ | ⟨g, cap, cur, rfl, hge, hgc, h3, h4, h5, h6⟩
  · exact ⟨[], (h.grow hb).addNil, hown.1, .inl ⟨rfl, rfl, rfl⟩⟩
  · refine ⟨[(g, .cells cur E (0, 0))], ?_, hown.1, .inr ⟨g, cap, cur, rfl, rfl, h3, h4, h5, h6⟩⟩
    exact h.addNil.step hb.os hb.tape hb.output hb.size (fun b hb' _ => hb.block b hb') (by simp) (by intro p hp; simp at hp; subst hp; exact Or.inr hge) (by intro p hp; simp at hp; subst hp; exact hgc)

/-- A row made by a literal. -/
theorem H.lit (h : H W w L) (cs : Array Value) (n : Nat) (hm : n ≤ maxLen) (hs : cs.size = n * size) :
    OwnS E size (.slice (some ⟨w.heap.size, 0, none⟩) n n) n cs.toList [(w.heap.size, .cells cs E (0, 0))] :=
  have := h
  ⟨by simpa using hs, .inr ⟨w.heap.size, n, cs, rfl, rfl, Nat.le_refl _, hm, hs, List.take_of_length_le (by rw [Array.length_toList, hs]; exact Nat.le_refl _)⟩⟩

/-- v reads, in the blocks of L, as n elements with the cells xs. -/
def RS (L : List Seg) (size : Nat) (v : Value) (n : Nat) (xs : List Value) : Prop :=
  xs.length = n * size ∧
  ((n = 0 ∧ ∃ A cap, v = .slice A 0 cap) ∨
   ∃ b o cap c E fr, v = .slice (some ⟨b, o, none⟩) n cap ∧ (b, Obj.cells c E fr) ∈ L.flatten ∧ ∀ j u, xs[j]? = some u → c[o + j]? = some u)

theorem RS.mono (h : RS L size v n xs) (hs : ∀ p ∈ L.flatten, p ∈ L'.flatten) : RS L' size v n xs := by
  refine ⟨h.1, ?_⟩
  rcases h.2 with h1 | ⟨b, o, cap, c, E, fr, h1, h2, h3⟩
  · exact .inl h1
  · exact .inr ⟨b, o, cap, c, E, fr, h1, hs _ h2, h3⟩

theorem RS.cons (h : RS L size v n xs) (A : Seg) : RS (A :: L) size v n xs := h.mono (fun p hp => by simp only [List.flatten_cons, List.mem_append]; exact .inr hp)

theorem RS.form (h : RS L size v n xs) : ∃ A cap, v = .slice A n cap := by
  rcases h.2 with ⟨rfl, A, cap, rfl⟩ | ⟨b, o, cap, c, E, fr, rfl, _⟩
  · exact ⟨A, cap, rfl⟩
  · exact ⟨_, _, rfl⟩

theorem RS.cell (h : RS L size v n xs) (hH : H W w L) {a : Addr} {m cap : Nat} (hv : v = .slice (some a) m cap) : ∀ j u, xs[j]? = some u → w.cell? (a.add j) = some u := by
  intro j u hu
  rcases h.2 with ⟨rfl, A, cap', rfl⟩ | ⟨b, o, cap', c, E, fr, rfl, hm, hc⟩
  · have := h.1; simp at this; subst this; simp at hu
  · obtain ⟨rfl, _, _⟩ := by simpa using hv
    have : (⟨b, o, none⟩ : Addr).add j = ⟨b, o + j, none⟩ := by simp only [Addr.add]; split <;> simp_all
    rw [this]
    exact hH.cell hm (hc j u hu)

theorem OwnS.rs (h : OwnS E size v n xs S) (L : List Seg) : RS (S :: L) size v n xs := by
  refine ⟨h.1, ?_⟩
  rcases h.2 with ⟨rfl, rfl, rfl⟩ | ⟨g, cap, cur, rfl, rfl, _, _, _, ht⟩
  · exact .inl ⟨rfl, none, 0, rfl⟩
  · refine .inr ⟨g, 0, cap, cur, E, (0, 0), rfl, by simp, fun j u hu => ?_⟩
    rw [← ht] at hu
    rw [Nat.zero_add, ← Array.getElem?_toList]
    rw [List.getElem?_take] at hu
    split at hu
    · exact hu
    · simp at hu

def u8s (l : List UInt8) : List Value := l.map fun b => .int .u8 b.toNat
theorem u8s_len (l : List UInt8) : (u8s l).length = l.length := by simp [u8s]
theorem u8s_one (l : List UInt8) : ∀ u ∈ u8s l, u.oneCell' = true := by
  intro u hu; simp [u8s] at hu; obtain ⟨b, _, rfl⟩ := hu; rfl

/-- v reads as the bytes l. -/
def RL (L : List Seg) (v : Value) (l : List UInt8) : Prop := l.length ≤ 140737488355328 ∧ RS L 1 v l.length (u8s l)
/-- v is a row of bytes of the call's own. -/
abbrev OB (v : Value) (l : List UInt8) (S : Seg) : Prop := OwnS 5 1 v l.length (u8s l) S

theorem RL.cons {l : List UInt8} (h : RL L v l) (A : Seg) : RL (A :: L) v l := ⟨h.1, h.2.cons A⟩
theorem RL.mono {l : List UInt8} (h : RL L v l) (hs : ∀ p ∈ L.flatten, p ∈ L'.flatten) : RL L' v l := ⟨h.1, h.2.mono hs⟩
theorem RL.nil (L : List Seg) : RL L (.slice none 0 0) [] := ⟨by simp, by simp [u8s], .inl ⟨rfl, none, 0, rfl⟩⟩

/-- The memory that was there. -/
def old (W : World) : Seg := W.heap.toList.zipIdx.map fun p => (p.2, p.1)
theorem mem_old {W : World} {b : Nat} {o : Obj} : (b, o) ∈ old W ↔ W.heap[b]? = some o := by
  unfold old
  simp only [List.mem_map, Prod.mk.injEq, Prod.exists, List.mem_zipIdx_iff_getElem?]
  constructor
  · rintro ⟨a, i, h, rfl, rfl⟩; simpa using h
  · intro h; exact ⟨o, b, by simpa using h, rfl, rfl⟩
theorem H.start (W : World) : H W W [old W] := by
  refine ⟨rfl, rfl, rfl, Nat.le_refl _, ?_, ?_⟩
  · simp only [List.flatten_cons, List.flatten_nil, List.append_nil, old, List.map_map]
    have : (W.heap.toList.zipIdx.map ((fun p : Nat × Obj => p.1) ∘ fun p : Obj × Nat => (p.2, p.1))) = List.range' 0 W.heap.toList.length := by
      rw [← List.zipIdx_map_snd]; rfl
    rw [this]
    exact List.nodup_range'
  · intro p hp
    simp only [List.flatten_cons, List.flatten_nil, List.append_nil] at hp
    exact mem_old.1 hp
theorem H.below (h : H W w L) (ho : ∀ p ∈ old W, p ∈ L.flatten) : Below W.heap.size W w := by
  refine ⟨h.os, h.tape, h.output, h.size, fun k hk => ?_⟩
  obtain ⟨o, hk'⟩ : ∃ o, W.heap[k]? = some o := ⟨W.heap[k], by simp [hk]⟩
  rw [hk']
  exact h.mem _ (ho _ (mem_old.2 hk'))
end

section
variable {P : Program} {W w w' : World} {L L' : List Seg} {A B S : Seg} {T E : TypeId} {size bytes n : Nat} {v : Value} {xs : List Value}

/-- T is a slice type, its elements of type E: so many cells, so many bytes each. -/
def ET (P : Program) (T E : TypeId) (size bytes : Nat) : Prop :=
  ∃ i z, P.underlying T = some (.slice E) ∧ P.info? E = some i ∧ i.zero = some z ∧ i.size = size ∧ i.bytes = bytes ∧ z.cells.size = size ∧ 0 < size

theorem run_append_zero (ht : P.underlying T = some (.slice E)) {i : TypeInfo} (hi : P.info? E = some i) (ty : TypeId) (a b : Option Addr) (k cap c : Nat) (h : k ≤ cap) (w : World) :
    (Builtin.append_ #[T, T] ty #[.slice a k cap, .slice b 0 c]).run P w = .ok (.slice a k cap) w := by
  cases a <;> cases b <;> simp [Builtin.append_, run_underlying ht, sizeOf, typeInfo, hi, Builtin.lenOf, Builtin.firstCells, loadCells, loadCellsFrom, h, storeCells]

theorem OwnS.cap (h : OwnS E size v n xs S) : ∃ A cap, v = .slice A n cap ∧ n ≤ cap := by
  rcases h.2 with ⟨rfl, rfl, _⟩ | ⟨g, cap, cur, rfl, _, h3, _⟩
  · exact ⟨none, 0, rfl, Nat.le_refl _⟩
  · exact ⟨_, _, rfl, h3⟩

theorem H.append (et : ET P T E size bytes) (h : H W w (S :: L)) (ho : OwnS E size v n xs S) {x : Value} {m : Nat} {news : List Value}
    (hr : RS (S :: L) size x m news) (h1 : ∀ u ∈ news, u.oneCell' = true) (hb : (n + m) * bytes ≤ 140737488355328) (hm : n + m ≤ 140737488355328) (ty : TypeId) :
    ∃ A' cap' w' S', (Builtin.append_ #[T, T] ty #[v, x]).run P w = .ok (.slice A' (n + m) cap') w' ∧ H W w' (S' :: L) ∧ OwnS E size (.slice A' (n + m) cap') (n + m) (xs ++ news) S' := by
  obtain ⟨i0, z, ht, hi, hz0, hz1, hz2, hzs, hsz⟩ := et
  obtain ⟨A, cap, rfl, hnc⟩ := ho.cap
  by_cases hm0 : m = 0
  · subst hm0
    obtain ⟨A1, cap1, rfl⟩ := hr.form
    have hnil : news = [] := List.eq_nil_of_length_eq_zero (by simpa using hr.1)
    subst hnil
    exact ⟨A, cap, w, S, by simpa using run_append_zero ht hi ty A A1 n cap cap1 hnc w, h, by simpa using ho⟩
  · have hx : ∃ a c, x = .slice (some a) m c := by
      rcases hr.2 with ⟨h0, _⟩ | ⟨b, o, c, _, _, _, hx, _⟩
      · exact absurd h0 hm0
      · exact ⟨_, _, hx⟩
    obtain ⟨a, c, rfl⟩ := hx
    obtain ⟨v', w', hr', h2, h3, h4, h5⟩ := run_append_own_at (P := P) w 0 T ty E i0 z size bytes ht hi hz0 hz1 hz2 hzs hsz _ n xs (ho.row1 h) a m c news hr.1
      (hr.cell h rfl) h1 (by unfold maxLen; omega) hb (Nat.zero_le _)
    obtain ⟨S', h6, h7⟩ := h.grown ho h2 h3 h5
    obtain ⟨A', cap', rfl⟩ := h7.form
    exact ⟨A', cap', w', S', hr', h6, h7⟩

/-- THE LAW ON append: onto a row of the call's own. -/
theorem wpl_append {ops : Array Oper} {rest : List Oper} {o : Oper} {a : Act} {Q : Exit → Act → World → Prop} (hgd : o.guard = none) (s x : Operand)
    (ho : o.op = .call { callee := .builtin .append, args := #[s, x], argTypes := #[T, T] }) (et : ET P T E size bytes)
    {vx : Value} {m : Nat} {news : List Value} (hs : a.eval s = v) (hx : a.eval x = vx) (h : H W w (S :: L)) (hown : OwnS E size v n xs S)
    (hr : RS (S :: L) size vx m news) (h1 : ∀ u ∈ news, u.oneCell' = true) (hb : (n + m) * bytes ≤ 140737488355328) (hm : n + m ≤ 140737488355328)
    (hK : ∀ A' cap' w' S', H W w' (S' :: L) → OwnS E size (.slice A' (n + m) cap') (n + m) (xs ++ news) S' → wpList P ops Q rest (a.put o.dst (.slice A' (n + m) cap')) w') :
    wpList P ops Q (o :: rest) a w := by
  obtain ⟨A', cap', w', S', hrun, h2, h3⟩ := h.append et hown hr h1 hb hm o.type
  refine wpList_plain hgd fun K hK' => ?_
  unfold Oper.wp execOp
  simp only [ho, resolve, invoke, builtin, Sem.run_bind, Sem.run_pure, Result.andThen_ok, List.map_toArray, List.map_cons, List.map_nil, hs, hx, hrun]
  exact hK' _ _ (hK A' cap' w' S' h2 h3)

/-- The same, as a step of a region that draws. -/
theorem step_append {ops : Array Oper} {o : Oper} {a : Act} {K : Act → World → Prop} {Q : Exit → Act → World → Prop} {X : Prop} (hgd : o.guard = none) (s x : Operand)
    (ho : o.op = .call { callee := .builtin .append, args := #[s, x], argTypes := #[T, T] }) (et : ET P T E size bytes)
    {vx : Value} {m : Nat} {news : List Value} (hs : a.eval s = v) (hx : a.eval x = vx) (h : H W w (S :: L)) (hown : OwnS E size v n xs S)
    (hr : RS (S :: L) size vx m news) (h1 : ∀ u ∈ news, u.oneCell' = true) (hb : (n + m) * bytes ≤ 140737488355328) (hm : n + m ≤ 140737488355328)
    (hK : ∀ A' cap' w' S', H W w' (S' :: L) → OwnS E size (.slice A' (n + m) cap') (n + m) (xs ++ news) S' → K (a.put o.dst (.slice A' (n + m) cap')) w') :
    if Region.wanted o (yielded ops a.tmps) = true then Oper.wp P o a w K Q else X := by
  obtain ⟨A', cap', w', S', hrun, h2, h3⟩ := h.append et hown hr h1 hb hm o.type
  rw [if_pos (by simp [Region.wanted, hgd])]
  unfold Oper.wp execOp
  simp only [ho, resolve, invoke, builtin, Sem.run_bind, Sem.run_pure, Result.andThen_ok, List.map_toArray, List.map_cons, List.map_nil, hs, hx, hrun]
  exact hK A' cap' w' S' h2 h3
end


section
variable {P : Program} {W w w' : World} {L L' : List Seg} {A B S : Seg} {T T' E : TypeId} {size bytes n : Nat} {v : Value} {xs : List Value}

/-- What a list of cells is behind a store of vs from off on. -/
def spl (cur : List Value) (off : Nat) (vs : List Value) : List Value := cur.take off ++ vs ++ cur.drop (off + vs.length)
theorem spl_length {cur vs : List Value} {off : Nat} (h : off + vs.length ≤ cur.length) : (spl cur off vs).length = cur.length := by
  simp [spl]; omega
theorem spl_get {cur vs : List Value} {off : Nat} (h : off + vs.length ≤ cur.length) (j : Nat) : (spl cur off vs)[j]? = if j < off then cur[j]? else if j < off + vs.length then vs[j - off]? else cur[j]? := by
  unfold spl
  rw [List.append_assoc, List.getElem?_append]
  have h1 : (cur.take off).length = off := by simp; omega
  rw [h1]
  split
  · rename_i hj; rw [List.getElem?_take, if_pos hj]
  · rename_i hj
    rw [List.getElem?_append]
    by_cases h2 : j < off + vs.length
    · rw [if_pos (by omega), if_pos h2]
    · rw [if_neg (by omega), if_neg h2, List.getElem?_drop]
      congr 1; omega

theorem H.setRow {g : Nat} {cur : Array Value} {fr : Nat × Nat} (h : H W w ([(g, .cells cur E fr)] :: L)) (new : Array Value) :
    H W (w.setRow g new) ([(g, .cells new E fr)] :: L) :=
  h.step rfl rfl rfl (by simp [World.setRow]) (fun k hk hn => setRow_other w g k _ (by simpa using hn)) (by simp) (by intro p hp; simp at hp; subst hp; simp)
    (by intro p hp; simp at hp; subst hp; exact setRow_heap w g cur new E fr (h.mem (g, .cells cur E fr) (by simp)))

theorem H.stores {g off : Nat} {cur : Array Value} (h : H W w ([(g, .cells cur E (0, 0))] :: L)) (vs : List Value) (hl : off + vs.length ≤ cur.size) (h1 : ∀ v ∈ vs, v.oneCell' = true) :
    ∃ w', (storeCells ⟨g, off, none⟩ vs).run P w = .ok () w' ∧ H W w' ([(g, .cells (spl cur.toList off vs).toArray E (0, 0))] :: L) := by
  refine ⟨_, run_storeCells_at P g off E vs 0 cur w (h.mem (g, .cells cur E (0, 0)) (by simp)) (by omega) h1, ?_⟩
  exact h.setRow _

theorem RS.take (h : RS L size v n xs) (k : Nat) (hk : k ≤ n) : ∀ a m cap, v = .slice (some a) m cap → ∀ (w : World), H W w L → ∀ j u, (xs.take (k * size))[j]? = some u → w.cell? (a.add j) = some u := by
  intro a m cap hv w hH j u hu
  have := hk
  rw [List.getElem?_take] at hu
  split at hu
  · exact h.cell hH hv j u hu
  · simp at hu

theorem H.copy {g : Nat} {cur : Array Value} (et : ET P T E size bytes) (h : H W w ([(g, .cells cur E (0, 0))] :: L)) {off dl dc m : Nat} {vs : Value} (hr : RS ([(g, .cells cur E (0, 0))] :: L) size vs m xs)
    (h1 : ∀ u ∈ xs, u.oneCell' = true) (hfit : off + min m dl * size ≤ cur.size) (ty : TypeId) :
    ∃ w', (Builtin.copy_ #[T, T'] ty #[.slice (some ⟨g, off, none⟩) dl dc, vs]).run P w = .ok (goInt (min m dl : Nat)) w' ∧
      H W w' ([(g, .cells (spl cur.toList off (xs.take (min m dl * size))).toArray E (0, 0))] :: L) := by
  obtain ⟨i0, z, ht, hi, hz0, hz1, hz2, hzs, hsz⟩ := et
  obtain ⟨A1, c1, rfl⟩ := hr.form
  have hlen : (xs.take (min m dl * size)).length = min m dl * size := by
    rw [List.length_take, hr.1]; exact Nat.min_eq_left (Nat.mul_le_mul_right _ (Nat.min_le_left _ _))
  obtain ⟨w', hs, hH⟩ := h.stores (P := P) (off := off) (xs.take (min m dl * size)) (by rw [hlen]; exact hfit) (fun u hu => h1 u (List.mem_of_mem_take hu))
  refine ⟨w', ?_, hH⟩
  have hload : (Builtin.firstCells i0.size (min m dl) (.slice A1 m c1)).run P w = .ok (xs.take (min m dl * size)).toArray w := by
    cases A1 with
    | none =>
      rcases hr.2 with ⟨h0, _⟩ | ⟨b, o, c, _, _, _, hx, _⟩
      · subst h0; simp [Builtin.firstCells]
      · simp at hx
    | some a =>
      simp only [Builtin.firstCells]
      have := run_loadCells_list (P := P) (w := w) a (xs.take (min m dl * size)) (hr.take (W := W) (min m dl) (Nat.min_le_left _ _) a m c1 rfl w h)
      rw [hlen] at this
      rw [hz1]; exact this
  simp [Builtin.copy_, run_underlying ht, sizeOf, typeInfo, hi, Builtin.lenOf, hload, hs]

theorem wpl_copy {g : Nat} {cur : Array Value} {ops : Array Oper} {rest : List Oper} {o : Oper} {a : Act} {Q : Exit → Act → World → Prop} (hgd : o.guard = none) (d s : Operand)
    (ho : o.op = .call { callee := .builtin .copy, args := #[d, s], argTypes := #[T, T'] }) (et : ET P T E size bytes)
    {off dl dc m : Nat} {vs : Value} (hd : a.eval d = .slice (some ⟨g, off, none⟩) dl dc) (hs : a.eval s = vs)
    (h : H W w ([(g, .cells cur E (0, 0))] :: L)) (hr : RS ([(g, .cells cur E (0, 0))] :: L) size vs m xs)
    (h1 : ∀ u ∈ xs, u.oneCell' = true) (hfit : off + min m dl * size ≤ cur.size)
    (hK : ∀ w', H W w' ([(g, .cells (spl cur.toList off (xs.take (min m dl * size))).toArray E (0, 0))] :: L) → wpList P ops Q rest (a.put o.dst (goInt (min m dl : Nat))) w') :
    wpList P ops Q (o :: rest) a w := by
  obtain ⟨w', hrun, h2⟩ := h.copy (T' := T') (dc := dc) et hr h1 hfit o.type
  refine wpList_plain hgd fun K hK' => ?_
  unfold Oper.wp execOp
  simp only [ho, resolve, invoke, builtin, Sem.run_bind, Sem.run_pure, Result.andThen_ok, List.map_toArray, List.map_cons, List.map_nil, hs, hd, hrun]
  exact hK' _ _ (hK w' h2)

theorem step_copy {g : Nat} {cur : Array Value} {ops : Array Oper} {o : Oper} {a : Act} {K : Act → World → Prop} {Q : Exit → Act → World → Prop} {X : Prop} (hgd : o.guard = none) (d s : Operand)
    (ho : o.op = .call { callee := .builtin .copy, args := #[d, s], argTypes := #[T, T'] }) (et : ET P T E size bytes)
    {off dl dc m : Nat} {vs : Value} (hd : a.eval d = .slice (some ⟨g, off, none⟩) dl dc) (hs : a.eval s = vs)
    (h : H W w ([(g, .cells cur E (0, 0))] :: L)) (hr : RS ([(g, .cells cur E (0, 0))] :: L) size vs m xs)
    (h1 : ∀ u ∈ xs, u.oneCell' = true) (hfit : off + min m dl * size ≤ cur.size)
    (hK : ∀ w', H W w' ([(g, .cells (spl cur.toList off (xs.take (min m dl * size))).toArray E (0, 0))] :: L) → K (a.put o.dst (goInt (min m dl : Nat))) w') :
    if Region.wanted o (yielded ops a.tmps) = true then Oper.wp P o a w K Q else X := by
  obtain ⟨w', hrun, h2⟩ := h.copy (T' := T') (dc := dc) et hr h1 hfit o.type
  rw [if_pos (by simp [Region.wanted, hgd])]
  unfold Oper.wp execOp
  simp only [ho, resolve, invoke, builtin, Sem.run_bind, Sem.run_pure, Result.andThen_ok, List.map_toArray, List.map_cons, List.map_nil, hs, hd, hrun]
  exact hK w' h2

theorem H.clear {g : Nat} {cur : Array Value} (ht : P.underlying T = some (.slice E)) {i : TypeInfo} (hi : P.info? E = some i) {z : Value} (hz : i.zero = some z) (h : H W w ([(g, .cells cur E (0, 0))] :: L)) {off k c : Nat} (hk : 0 < k)
    (hfit : off + (Builtin.zeroCells z.cells k).size ≤ cur.size) (h1 : ∀ u ∈ (Builtin.zeroCells z.cells k).toList, u.oneCell' = true) (ty : TypeId) :
    ∃ w', (Builtin.clear_ #[T] ty #[.slice (some ⟨g, off, none⟩) k c]).run P w = .ok (.tuple #[]) w' ∧
      H W w' ([(g, .cells (spl cur.toList off (Builtin.zeroCells z.cells k).toList).toArray E (0, 0))] :: L) := by
  obtain ⟨w', hs, hH⟩ := h.stores (P := P) (off := off) (Builtin.zeroCells z.cells k).toList (by simpa using hfit) h1
  refine ⟨w', ?_, hH⟩
  obtain ⟨k, rfl⟩ : ∃ m, k = m + 1 := ⟨k - 1, by omega⟩
  simp [Builtin.clear_, run_underlying ht, zeroValue, typeInfo, hi, hz, hs]

theorem wpl_clear {g : Nat} {cur : Array Value} {ops : Array Oper} {rest : List Oper} {o : Oper} {a : Act} {Q : Exit → Act → World → Prop} (hgd : o.guard = none) (d : Operand)
    (ho : o.op = .call { callee := .builtin .clear, args := #[d], argTypes := #[T] }) (ht : P.underlying T = some (.slice E)) {i : TypeInfo} (hi : P.info? E = some i) {z : Value} (hz : i.zero = some z)
    {off k c : Nat} (hd : a.eval d = .slice (some ⟨g, off, none⟩) k c) (hk : 0 < k) (h : H W w ([(g, .cells cur E (0, 0))] :: L))
    (hfit : off + (Builtin.zeroCells z.cells k).size ≤ cur.size) (h1 : ∀ u ∈ (Builtin.zeroCells z.cells k).toList, u.oneCell' = true)
    (hK : ∀ w', H W w' ([(g, .cells (spl cur.toList off (Builtin.zeroCells z.cells k).toList).toArray E (0, 0))] :: L) → wpList P ops Q rest (a.put o.dst (.tuple #[])) w') :
    wpList P ops Q (o :: rest) a w := by
  obtain ⟨w', hrun, h2⟩ := h.clear (c := c) ht hi hz hk hfit h1 o.type
  refine wpList_plain hgd fun K hK' => ?_
  unfold Oper.wp execOp
  simp only [ho, resolve, invoke, builtin, Sem.run_bind, Sem.run_pure, Result.andThen_ok, List.map_toArray, List.map_cons, List.map_nil, hd, hrun]
  exact hK' _ _ (hK w' h2)
end

end Go.Proofs.Ytfhoblchgeijkaa
