import Derived.Test.YtfhoblchgeijkaaH
import Derived.Maps.OwnSet
import Derived.ArgAppend
import Derived.Sort.KeysCollected
import Derived.StringKeys
namespace Go.Proofs.Ytfhoblchgeijkaa
open Go.RowKit Go.Maps
open Go.WideElems (Fit rd rg pl rd_val)
open Go.WideMaps

abbrev Bs := List UInt8
def bstr (l : Bs) : ByteArray := ⟨l.toArray⟩
theorem bstr_toList (l : Bs) : (bstr l).toList = l := by
  rw [ByteArray.toList_eq]; rfl
theorem bstr_size (l : Bs) : (bstr l).size = l.length := by simp [bstr, ByteArray.size]
theorem bstr_of (s : ByteArray) : s = bstr s.data.toList := by simp [bstr]

section
variable {P : Program} {W w : World} {L : List Seg} {S : Seg} {T : TypeId} {v : Value} {l : Bs}

/-- A row that lies at a block's start; behind its room the block may go on. -/
def CutS (v : Value) (l : Bs) (S : Seg) : Prop :=
  (v = .slice none 0 0 ∧ l = [] ∧ S = []) ∨
  ∃ g cap cur, v = .slice (some ⟨g, 0, none⟩) l.length cap ∧ S = [(g, .cells cur 5 (0, 0))] ∧ l.length ≤ cap ∧ cap ≤ cur.size ∧ cap ≤ maxLen ∧ cur.toList.take l.length = u8s l

theorem CutS.nil : CutS (.slice none 0 0) [] [] := .inl ⟨rfl, rfl, rfl⟩

theorem OwnS.cut (h : OB v l S) : CutS v l S := by
  obtain ⟨h0, h1 | ⟨g, cap, cur, h1, h2, h3, h4, h5, h6⟩⟩ := h
  · obtain ⟨r1, r2, r3⟩ := h1
    exact .inl ⟨r1, List.eq_nil_of_length_eq_zero r2, r3⟩
  · exact .inr ⟨g, cap, cur, h1, h2, h3, by omega, h4, by simpa using h6⟩

theorem CutS.form (h : CutS v l S) : ∃ A cap, v = .slice A l.length cap ∧ l.length ≤ cap := by
  rcases h with ⟨rfl, rfl, _⟩ | ⟨g, cap, cur, rfl, _, h3, _⟩
  · exact ⟨none, 0, rfl, Nat.le_refl _⟩
  · exact ⟨_, _, rfl, h3⟩

theorem CutS.rs (h : CutS v l S) (L : List Seg) : RS (S :: L) 1 v l.length (u8s l) := by
  refine ⟨by simp [u8s], ?_⟩
  rcases h with ⟨rfl, rfl, rfl⟩ | ⟨g, cap, cur, rfl, rfl, _, _, _, ht⟩
  · exact .inl ⟨rfl, none, 0, rfl⟩
  · refine .inr ⟨g, 0, cap, cur, 5, (0, 0), rfl, by simp, fun j u hu => ?_⟩
    rw [← ht] at hu
    rw [Nat.zero_add, ← Array.getElem?_toList]
    rw [List.getElem?_take] at hu
    split at hu
    · exact hu
    · simp at hu

theorem grown_below {w w' : World} (h : w.grownBy w' none) : Below w.heap.size w w' := ⟨h.os, h.tape, h.output, h.size, fun k hk => h.block k hk (by simp)⟩

theorem H.appendCut (et : ET P T 5 1 1) (h : H W w (S :: L)) (hc : CutS v l S) {x : Value} {m : Bs} (hr : RS (S :: L) 1 x m.length (u8s m)) (hb : l.length + m.length ≤ 140737488355328) (ty : TypeId) :
    ∃ v' w' S', (Builtin.append_ #[T, T] ty #[v, x]).run P w = .ok v' w' ∧ H W w' (S' :: L) ∧ CutS v' (l ++ m) S' := by
  by_cases hm0 : m = []
  · subst hm0
    obtain ⟨i0, z, ht, hi, _⟩ := et
    obtain ⟨A, cap, rfl, hnc⟩ := hc.form
    obtain ⟨A1, cap1, rfl⟩ := hr.form
    exact ⟨_, w, S, run_append_zero ht hi ty A A1 _ cap cap1 hnc w, h, by simpa using hc⟩
  have hml : 0 < m.length := List.length_pos_iff.2 hm0
  have hx : ∃ a c, x = .slice (some a) m.length c := by
    rcases hr.2 with ⟨h0, _⟩ | ⟨b, o, c, _, _, _, hx, _⟩
    · omega
    · exact ⟨_, _, hx⟩
  obtain ⟨a, c, rfl⟩ := hx
  rcases hc with ⟨rfl, rfl, rfl⟩ | ⟨g, cap, cur, rfl, rfl, h3, h4, h5, h6⟩
  · obtain ⟨A', cap', w', S', r1, r2, r3⟩ := h.append et (OwnS.nil 5 1) hr (u8s_one m) (by simpa using hb) (by simpa using hb) ty
    refine ⟨_, w', S', r1, r2, ?_⟩
    have : OB (.slice A' (0 + m.length) cap') m S' := by simpa using r3
    simpa using this.cut
  · by_cases hroom : l.length + m.length ≤ cap
    · obtain ⟨i0, z, ht, hi, hz0, hz1, hz2, hzs, hsz⟩ := et
      have hblk := h.mem (g, .cells cur 5 (0, 0)) (by simp)
      have hrun := run_append_room_cells (P := P) w T ty 5 i0 ht hi g 0 l.length cap a m.length c (u8s m) (by rw [hz1]; simp [u8s]) (hr.cell h rfl) (u8s_one m) hroom
        (by intro j hj; rw [u8s_len] at hj; rw [hz1]; simp [World.cell?, hblk]; omega) (by intro j hj; simp [World.frozen?, hblk])
      obtain ⟨w2, hs1, hs2⟩ := h.stores (P := P) (off := l.length) (u8s m) (by rw [u8s_len]; omega) (u8s_one m)
      have hst := run_storeCells_cells (P := P) g l.length (u8s m) 0 w (by intro j hj; rw [u8s_len] at hj; simp [World.cell?, hblk]; omega) (by intro j hj; simp [World.frozen?, hblk]) (u8s_one m)
      simp only [Nat.add_zero] at hst
      have e : w.setCells g l.length (u8s m) = w2 := by
        rw [hs1] at hst
        cases hst; rfl
      rw [hz1] at hrun
      simp only [Nat.zero_add, Nat.mul_one] at hrun
      rw [e] at hrun
      refine ⟨_, w2, _, hrun, hs2, .inr ⟨g, cap, _, by rw [List.length_append], rfl, by simpa using hroom, ?_, h5, ?_⟩⟩
      · rw [List.size_toArray, spl_length (by rw [u8s_len]; simp; omega)]; simpa using h4
      · have hlen : (spl cur.toList l.length (u8s m)) = u8s l ++ u8s m ++ cur.toList.drop (l.length + m.length) := by
          unfold spl; rw [h6, u8s_len]
        rw [hlen, show u8s l ++ u8s m = u8s (l ++ m) by simp [u8s], ← u8s_len (l ++ m), List.take_left]
    · obtain ⟨i0, z, ht, hi, hz0, hz1, hz2, hzs, hsz⟩ := et
      have hblk := h.mem (g, .cells cur 5 (0, 0)) (by simp)
      have hcut : CutS (.slice (some ⟨g, 0, none⟩) l.length cap) l [(g, .cells cur 5 (0, 0))] := .inr ⟨g, cap, cur, rfl, rfl, h3, h4, h5, h6⟩
      obtain ⟨v', w', hrun, hown, hg⟩ := run_append_arg_grows (P := P) w T ty 5 i0 z 1 1 ht hi hz0 hz1 hz2 hzs hsz ⟨g, 0, none⟩ l.length cap (u8s l) (by simp [u8s]) ((hcut.rs L).cell h rfl)
        a m.length c (u8s m) (by simp [u8s]) (hr.cell h rfl) (by omega) (by unfold maxLen; omega) (by omega)
      obtain ⟨S', r1, r2⟩ := h.new (grown_below hg) hown
      have : OB v' (l ++ m) S' := by
        have := r2
        rw [show u8s l ++ u8s m = u8s (l ++ m) by simp [u8s], ← List.length_append] at this
        exact this
      exact ⟨v', w', S', hrun, r1.swap.drop, this.cut⟩
end

/-! ### The map of the files. -/
abbrev DW := DataW Unit
def pE : Value → Option (DW × List MemPlace)
  | .pointer none => some (.nil, [])
  | .pointer (some ⟨b, 0, none⟩) => some (.lit (.int .i64 b), [])
  | _ => none
def asD (fs : List (Bs × Nat)) : List (Lit × DW) := fs.map fun p => (.string p.1, .lit (.int .i64 p.2))

/-- The map block M says: these names, these blocks. -/
def MapS (P : Program) (k : TypeId) (M : Nat) (fs : List (Bs × Nat)) (S : Seg) : Prop :=
  ∃ es clock, S = [(M, .map es clock)] ∧ Fit P k pE es clock ∧ (es.toList.map (rg P k pE)).foldr DataW.insert [] = asD fs

def insL {α : Type} (f : α → Bs) (x : α) : List α → List α
  | [] => [x]
  | y :: r => if bytesBefore (f x) (f y) then x :: y :: r else y :: insL f x r
def delL {α : Type} (f : α → Bs) (n : Bs) (l : List α) : List α := l.filter fun p => !(f p == n)

theorem asD_ins (x : Bs × Nat) : ∀ fs, DataW.insert (.string x.1, .lit (.int .i64 (x.2 : Int))) (asD fs) = asD (insL Prod.fst x fs)
  | [] => rfl
  | y :: r => by
    have ih := asD_ins x r
    simp only [asD, List.map_cons] at ih ⊢
    unfold DataW.insert insL
    cases hc : bytesBefore x.1 y.1
    · simp only [Lit.before, hc, Bool.false_eq_true, if_false, List.map_cons, ih]
    · simp only [Lit.before, hc, if_true, List.map_cons]

theorem asD_del (n : Bs) (fs : List (Bs × Nat)) : (asD fs).filter (fun p => !p.1.sameKey (.string n)) = asD (delL Prod.fst n fs) := by
  induction fs with
  | nil => rfl
  | cons y r ih =>
    have hs : (Lit.string y.1).sameKey (.string n) = (y.1 == n) := rfl
    simp only [asD, List.map_cons, delL, List.filter_cons] at ih ⊢
    rw [hs]
    cases hc : y.1 == n
    · simp only [Bool.not_false, if_true, List.map_cons, ih]
    · simpa using ih

section
variable {P : Program} {k : TypeId} {W w : World} {L : List Seg} {S : Seg} {M : Nat} {fs : List (Bs × Nat)}

theorem MapS.owns (h : MapS P k M fs S) (hH : H W w (S :: L)) : w.ownsMap P k pE M fs.length (.map (asD fs)) := by
  obtain ⟨es, clock, rfl, F, hD⟩ := h
  refine ⟨es, clock, hH.mem (M, .map es clock) (by simp), F, ?_, by rw [hD]⟩
  have := length_read (P := P) (k := k) (R0 := pE) es
  rw [hD] at this
  simp [asD] at this
  omega

theorem MapS.of_owns {D : DW} {n : Nat} (h : w.ownsMap P k pE M n D) (hD : D = .map (asD fs)) : ∃ S, MapS P k M fs S ∧ ∃ o, S = [(M, o)] ∧ w.heap[M]? = some o := by
  obtain ⟨es, clock, hb, F, hs, rfl⟩ := h
  exact ⟨_, ⟨es, clock, rfl, F, by simpa using hD⟩, _, rfl, hb⟩

/-- One block was written, nothing else. -/
theorem H.turned {w' : World} {o o' : Obj} (h : H W w ([(M, o)] :: L)) (hg : w.grownBy w' (some M)) (ho : w'.heap[M]? = some o') : H W w' ([(M, o')] :: L) :=
  h.step hg.os hg.tape hg.output hg.size (fun b hb hn => hg.block b hb (by simpa using hn)) (by simp) (by intro p hp; simp at hp; subst hp; simp) (by intro p hp; simp at hp; subst hp; exact ho)

theorem putKey_asD (n : Bs) (b : Nat) (fs : List (Bs × Nat)) : (DataW.map (asD fs)).put (.string n) (.lit (.int .i64 (b : Int))) = .map (asD (insL Prod.fst (n, b) (delL Prod.fst n fs))) := by
  rw [← asD_ins, ← asD_del]; rfl
theorem delKey_asD (n : Bs) (fs : List (Bs × Nat)) : (DataW.map (asD fs)).del (.string n) = .map (asD (delL Prod.fst n fs)) := by
  rw [← asD_del]; rfl

theorem H.mapStore {t e : TypeId} (hk : P.underlying k = some .string) (ht : P.underlying t = some (.map k e)) (h : H W w (S :: L)) (hm : MapS P k M fs S) (hl : fs.length < maxLen) (n : Bs) (hn : n.length ≤ maxLen) (b : Nat) :
    ∃ w' S', (Instr.mapUpdate t (.map (some M)) (.string (bstr n)) (.pointer (some ⟨b, 0, none⟩))).run P w = .ok () w' ∧ H W w' (S' :: L) ∧ MapS P k M (insL Prod.fst (n, b) (delL Prod.fst n fs)) S' := by
  have ho := hm.owns h
  obtain ⟨w', hrun, r1, r2⟩ := ho.update (string_keyed hk) ht hl (key := .string (bstr n)) (val := .pointer (some ⟨b, 0, none⟩)) (kl := .string n) (d := .lit (.int .i64 b)) (ps := [])
    (by have := keyOf_string_mk (P := P) hk (s := bstr n) (by rw [bstr_size]; exact hn); simpa [bstr] using this) rfl
  obtain ⟨S', s1, o, rfl, s2⟩ := MapS.of_owns r1 (putKey_asD n b fs)
  obtain ⟨es, clock, rfl, _⟩ := hm
  exact ⟨w', _, hrun, h.turned r2 s2, s1⟩

theorem H.mapDrop {t e : TypeId} (hk : P.underlying k = some .string) (ht : P.underlying t = some (.map k e)) (h : H W w (S :: L)) (hm : MapS P k M fs S) (n : Bs) (hn : n.length ≤ maxLen) (ty : TypeId) :
    ∃ w' S', (Builtin.delete_ #[t, k] ty #[.map (some M), .string (bstr n)]).run P w = .ok (.tuple #[]) w' ∧ H W w' (S' :: L) ∧ MapS P k M (delL Prod.fst n fs) S' := by
  have ho := hm.owns h
  obtain ⟨w', hrun, r1, r2⟩ := ho.drop (string_keyed hk) ht (key := .string (bstr n)) (kl := .string n)
    (by have := keyOf_string_mk (P := P) hk (s := bstr n) (by rw [bstr_size]; exact hn); simpa [bstr] using this) ty
  obtain ⟨S', s1, o, rfl, s2⟩ := MapS.of_owns r1 (delKey_asD n fs)
  obtain ⟨es, clock, rfl, _⟩ := hm
  exact ⟨w', _, hrun, h.turned r2.grown s2, s1⟩

def findB (fs : List (Bs × Nat)) (n : Bs) : Option Nat := (fs.find? fun p => p.1 == n).map (·.2)
def ptrV : Option Nat → Value
  | none => .pointer none
  | some b => .pointer (some ⟨b, 0, none⟩)

theorem atKey_asD (n : Bs) (fs : List (Bs × Nat)) : (DataW.map (asD fs)).atKey (.string n) .nil = match findB fs n with | none => .nil | some b => .lit (.int .i64 (b : Int)) := by
  unfold DataW.atKey findB asD
  simp only
  induction fs with
  | nil => rfl
  | cons y r ih =>
    simp only [List.map_cons, List.find?_cons, Lit.sameKey] at ih ⊢
    cases hc : y.1 == n
    · simpa [hc] using ih
    · simp

theorem pE_inv {v : Value} {d : DW} {ps : List MemPlace} (h : pE v = some (d, ps)) : ∃ o : Option Nat, v = ptrV o ∧ d = match o with | none => .nil | some b => .lit (.int .i64 (b : Int)) := by
  unfold pE at h
  split at h
  · cases h; exact ⟨none, rfl, rfl⟩
  · cases h; exact ⟨some _, rfl, rfl⟩
  · cases h

theorem H.mapLook {t e : TypeId} (hk : P.underlying k = some .string) (ht : P.underlying t = some (.map k e)) (hz : (zeroValue e).run P w = .ok (.pointer none) w) (h : H W w (S :: L)) (hm : MapS P k M fs S) (n : Bs) (hn : n.length ≤ maxLen) :
    (Instr.lookup t (.map (some M)) (.string (bstr n)) false).run P w = .ok (ptrV (findB fs n)) w := by
  have ho := hm.owns h
  obtain ⟨v, ps, hrun, hv⟩ := ho.lookup (string_keyed hk) ht hz (zd := .nil) (zp := []) rfl (key := .string (bstr n)) (kl := .string n)
    (by have := keyOf_string_mk (P := P) hk (s := bstr n) (by rw [bstr_size]; exact hn); simpa [bstr] using this)
  obtain ⟨o, rfl, hd⟩ := pE_inv hv
  rw [atKey_asD] at hd
  have : o = findB fs n := by
    revert hd
    cases o <;> cases findB fs n <;> simp
    omega
  rw [hrun, this]

theorem MapS.new (P : Program) (k : TypeId) (M : Nat) : MapS P k M [] [(M, .map #[] 0)] := by
  exact ⟨#[], 0, rfl, ⟨by simp, Go.MapKept.stamped_empty 0, by simp⟩, by simp [asD]⟩
end
end Go.Proofs.Ytfhoblchgeijkaa
