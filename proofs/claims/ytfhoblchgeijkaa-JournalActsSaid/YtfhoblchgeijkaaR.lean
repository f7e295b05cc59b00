import Derived.Test.YtfhoblchgeijkaaQ
namespace Go.Proofs.Ytfhoblchgeijkaa
open Go.RowKit Go.Maps
variable {W w : World} {L T : List Seg} {v : Value} {l n bs : Bs} {b M : Nat} {d : AD} {SM X S : Seg} {rs rs1 rs2 : List FR} {r : FR} {fs : List (Bs × Nat)}

def dmgL (dmg kept : Nat) (c : Bs) : Bs :=
  if dmg = 1 ∧ 0 < kept then c.set (c.length - 1) (c.getD (c.length - 1) 0 ^^^ 255)
  else if dmg = 2 then c.take (c.length - min kept 8) ++ List.replicate (min kept 8) 0 else c
def crash1 (ps : List Int) (f : AF) : AF :=
  if f.data.length = f.dur then f else
  { f with data := dmgL (belowV ps.tail 3) (belowV ps (f.data.length - f.dur + 1)) (f.data.take (f.dur + belowV ps (f.data.length - f.dur + 1))), dur := f.dur + belowV ps (f.data.length - f.dur + 1) }
def crashP (ps : List Int) (f : AF) : List Int := if f.data.length = f.dur then ps else ps.tail.tail
def crashL : List Int → List AF → List AF
  | _, [] => []
  | ps, f :: r => crash1 ps f :: crashL (crashP ps f) r
def picksL : List Int → List AF → List Int
  | ps, [] => ps
  | ps, f :: r => picksL (crashP ps f) r

theorem crashL_snoc (f : AF) : ∀ (l : List AF) (ps : List Int), crashL ps (l ++ [f]) = crashL ps l ++ [crash1 (picksL ps l) f]
  | [], ps => rfl
  | g :: l, ps => by simp only [List.cons_append, crashL, picksL, crashL_snoc f l]
theorem picksL_snoc (f : AF) : ∀ (l : List AF) (ps : List Int), picksL ps (l ++ [f]) = crashP (picksL ps l) f
  | [], ps => rfl
  | g :: l, ps => by simp only [List.cons_append, picksL, picksL_snoc f l]
theorem crashL_length : ∀ (l : List AF) (ps : List Int), (crashL ps l).length = l.length
  | [], ps => rfl
  | g :: l, ps => by simp only [crashL, List.length_cons, crashL_length l]
theorem crash1_name (ps : List Int) (f : AF) : (crash1 ps f).name = f.name := by unfold crash1; split <;> rfl
theorem dmgL_length (g k : Nat) (c : Bs) (hk : k ≤ c.length) : (dmgL g k c).length = c.length := by
  unfold dmgL; split
  · simp
  · split
    · simp; omega
    · rfl
theorem belowV_lt (ps : List Int) (n : Nat) (hn : 0 < n) : belowV ps n < n := by
  unfold belowV
  split
  · exact hn
  · rename_i p _
    have h1 := Int.emod_nonneg p (show (n : Int) ≠ 0 by omega)
    have h2 := Int.emod_lt_of_pos p (show (0 : Int) < n by omega)
    omega
theorem crash1_len (ps : List Int) (f : AF) (h : f.dur ≤ f.data.length) : (crash1 ps f).dur ≤ (crash1 ps f).data.length ∧ (crash1 ps f).data.length ≤ f.data.length := by
  unfold crash1; split
  · omega
  · have := belowV_lt ps (f.data.length - f.dur + 1) (by omega)
    have hl : (f.data.take (f.dur + belowV ps (f.data.length - f.dur + 1))).length = f.dur + belowV ps (f.data.length - f.dur + 1) := by rw [List.length_take]; omega
    simp only
    rw [dmgL_length _ _ _ (by rw [hl]; omega), hl]
    omega

def chdr (b M : Nat) : Seg := [(b, .cells #[.map (some M), .bool false, .bool false, .int .i64 0] 73 (0, 0))]

/-- What a round of Crash leaves. -/
def CRound (W : World) (b c M : Nat) (SN : Seg) (T : List Seg) (r : FR) (ps : List Int) (w' : World) : Prop :=
  ∃ vp' v' S', H W w' (csg c vp' :: [(r.blk, .cells #[v', .int .i64 (crash1 ps r.a).dur] 77 (0, 0))] :: S' :: chdr b M :: SN :: T) ∧ RI T vp' (crashP ps r.a) ∧ CutS v' (crash1 ps r.a).data S'

theorem CutS.some (h : CutS v l S) (hl : 0 < l.length) : ∃ g cap cur, v = .slice (some ⟨g, 0, none⟩) l.length cap ∧ S = [(g, .cells cur 5 (0, 0))] ∧ l.length ≤ cap ∧ cap ≤ cur.size ∧ cap ≤ maxLen ∧ cur.toList.take l.length = u8s l := by
  rcases h with ⟨_, rfl, _⟩ | h
  · simp at hl
  · exact h

theorem cut_keep {g cap : Nat} {cur : Array Value} {l : Bs} (e : Nat) (he : e ≤ l.length) (h3 : l.length ≤ cap) (h4 : cap ≤ cur.size) (h5 : cap ≤ maxLen) (h6 : cur.toList.take l.length = u8s l) :
    CutS (.slice (some ⟨g, 0, none⟩) e e) (l.take e) [(g, .cells cur 5 (0, 0))] := by
  refine .inr ⟨g, e, cur, by rw [List.length_take, Nat.min_eq_left he], rfl, by rw [List.length_take]; omega, by omega, by omega, ?_⟩
  rw [List.length_take, Nat.min_eq_left he]
  have : (u8s l).take e = u8s (l.take e) := by simp [u8s]
  rw [← this, ← h6, List.take_take, Nat.min_eq_left he]

theorem cut_set {g : Nat} {cur : Array Value} {e : Nat} {l : Bs} {x : UInt8} (k : Nat) (hk : k < e) (h : CutS (.slice (some ⟨g, 0, none⟩) e e) l [(g, .cells cur 5 (0, 0))]) :
    CutS (.slice (some ⟨g, 0, none⟩) e e) (l.set k x) [(g, .cells (cur.setIfInBounds k (.int .u8 x.toNat)) 5 (0, 0))] := by
  rcases h with ⟨h1, _⟩ | ⟨g', cap, cur', h1, h2, h3, h4, h5, h6⟩
  · simp at h1
  · simp only [Value.slice.injEq, Option.some.injEq, Addr.mk.injEq] at h1
    obtain ⟨⟨rfl, _⟩, rfl, rfl⟩ := h1
    simp only [List.cons.injEq, Prod.mk.injEq, Obj.cells.injEq] at h2
    obtain ⟨⟨_, rfl, _⟩, _⟩ := h2
    refine .inr ⟨g, l.length, _, by simp, rfl, by simp, by simpa using h4, h5, ?_⟩
    rw [List.length_set, Array.toList_setIfInBounds, List.take_set, h6]
    simp [u8s, List.map_set]

theorem cut_byte {g : Nat} {cur : Array Value} {e : Nat} {l : Bs} (k : Nat) (hk : k < e) (h : CutS (.slice (some ⟨g, 0, none⟩) e e) l [(g, .cells cur 5 (0, 0))]) : cur[k]? = some (.int .u8 ((l.getD k 0).toNat : Int)) ∧ e = l.length := by
  rcases h with ⟨h1, _⟩ | ⟨g', cap, cur', h1, h2, h3, h4, h5, h6⟩
  · simp at h1
  · simp only [Value.slice.injEq, Option.some.injEq, Addr.mk.injEq] at h1
    obtain ⟨⟨rfl, _⟩, rfl, rfl⟩ := h1
    simp only [List.cons.injEq, Prod.mk.injEq, Obj.cells.injEq] at h2
    obtain ⟨⟨_, rfl, _⟩, _⟩ := h2
    have : (u8s l)[k]? = Option.some (.int .u8 ((l.getD k 0).toNat : Int)) := by simp [u8s, List.getD, hk]
    rw [← h6, List.getElem?_take, if_pos hk] at this
    exact ⟨by simpa using this, rfl⟩

theorem zc8 (k : Nat) : (Builtin.zeroCells (Value.int .u8 0).cells k).toList = u8s (List.replicate k 0) := by
  have h1 : (Value.int .u8 0).cells = #[Value.int .u8 0] := rfl
  refine List.ext_getElem ?_ ?_
  · rw [Array.length_toList, size_zeroCells, h1]; simp [u8s]
  · intro i hi hj
    simp [Builtin.zeroCells, h1, u8s, Nat.mod_one]
theorem zc8_one (k : Nat) : ∀ u ∈ (Builtin.zeroCells (Value.int .u8 0).cells k).toList, u.oneCell' = true := by
  rw [zc8]; exact u8s_one _

theorem cut_clear {g : Nat} {cur : Array Value} {e : Nat} {l : Bs} (k : Nat) (hk : k ≤ e) (h : CutS (.slice (some ⟨g, 0, none⟩) e e) l [(g, .cells cur 5 (0, 0))]) :
    CutS (.slice (some ⟨g, 0, none⟩) e e) (l.take (l.length - k) ++ List.replicate k 0) [(g, .cells (spl cur.toList (e - k) (Builtin.zeroCells (Value.int .u8 0).cells k).toList).toArray 5 (0, 0))] := by
  rcases h with ⟨h1, _⟩ | ⟨g', cap, cur', h1, h2, h3, h4, h5, h6⟩
  · simp at h1
  · simp only [Value.slice.injEq, Option.some.injEq, Addr.mk.injEq] at h1
    obtain ⟨⟨rfl, _⟩, rfl, rfl⟩ := h1
    simp only [List.cons.injEq, Prod.mk.injEq, Obj.cells.injEq] at h2
    obtain ⟨⟨_, rfl, _⟩, _⟩ := h2
    rw [zc8]
    have hl : (l.take (l.length - k) ++ List.replicate k 0).length = l.length := by simp; omega
    refine .inr ⟨g, l.length, _, by rw [hl], rfl, by rw [hl]; exact Nat.le_refl _, ?_, h5, ?_⟩
    · rw [List.size_toArray, spl_length (by simp [u8s]; omega)]; simpa using h4
    · rw [hl]
      unfold spl
      simp only [u8s_len, List.length_replicate, show l.length - k + k = l.length by omega]
      have e1 : cur.toList.take (l.length - k) = u8s (l.take (l.length - k)) := by
        have : (cur.toList.take l.length).take (l.length - k) = cur.toList.take (l.length - k) := by rw [List.take_take, Nat.min_eq_left (by omega)]
        rw [← this, h6]; simp [u8s]
      rw [e1, show u8s (l.take (l.length - k)) ++ u8s (List.replicate k 0) = u8s (l.take (l.length - k) ++ List.replicate k 0) by simp [u8s]]
      exact List.take_left' (by rw [u8s_len, hl])
end Go.Proofs.Ytfhoblchgeijkaa
