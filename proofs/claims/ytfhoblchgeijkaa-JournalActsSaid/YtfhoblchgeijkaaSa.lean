import Derived.Test.YtfhoblchgeijkaaRo
import Derived.Test.YtfhoblchgeijkaaXb
namespace Go.Proofs.Ytfhoblchgeijkaa
open Go.RowKit Go.Maps
variable {W w : World} {L T : List Seg} {v : Value} {n bs t : Bs} {b r : Nat} {d e d' e' : AD} {S : Seg}

/-- The program's disk at b and the reference disk at r, in one world. -/
def Two (W w : World) (L : List Seg) (b : Nat) (d : AD) (r : Nat) (e : AD) : Prop :=
  ∃ lv SL rs, Disk W w (rhdr r e lv :: SL :: rdatas rs :: L) b d ∧ ROk e lv SL rs

theorem Two.h (h : Two W w L b d r e) : H W w L := by
  obtain ⟨_, _, _, h1, _⟩ := h
  exact h1.h.drop.drop.drop
theorem Two.lt (h : Two W w L b d r e) : b < w.heap.size ∧ r < w.heap.size := by
  obtain ⟨_, _, _, h1, _⟩ := h
  exact ⟨h1.lt, h1.h.ltAt 0 0 rfl rfl⟩
theorem Two.sorted (h : Two W w L b d r e) : d.sorted := by
  obtain ⟨_, _, _, h1, _⟩ := h
  exact h1.sorted
theorem Two.turn (h : Two W w L b d r e) : ∃ M SM fr, RDisk W w (dhdr b M d :: SM :: frs fr :: L) r e ∧ DOk d M SM fr := by
  obtain ⟨lv, SL, rs, ⟨M, SM, fr, h1, h2⟩, h3⟩ := h
  exact ⟨M, SM, fr, ⟨lv, SL, rs, h1.re (by intro c hc h0; simp only [List.flatten_cons, hc]; omega), h3⟩, h2⟩
theorem Two.back {M : Nat} {SM : Seg} {fr : List FR} (h : RDisk W w (dhdr b M d :: SM :: frs fr :: L) r e) (h2 : DOk d M SM fr) : Two W w L b d r e := by
  obtain ⟨lv, SL, rs, h1, h3⟩ := h
  exact ⟨lv, SL, rs, ⟨M, SM, fr, h1.re (by intro c hc h0; simp only [List.flatten_cons, hc]; omega), h2⟩, h3⟩
theorem sub3 {A B C : Seg} : ∀ p ∈ L.flatten, p ∈ (A :: B :: C :: L).flatten := by
  intro p hp; simp only [List.flatten_cons, List.mem_append]; exact .inr (.inr (.inr hp))
theorem Two.prog {f : FuncId} {args : Array Value} {Q : Ending → Prop} (h : Two W w L b d r e)
    (hc : ∀ T, (∀ p ∈ L.flatten, p ∈ T.flatten) → Disk W w T b d → Calls Try.prog f args w fun x w' => Q x ∧ Disk W w' T b d') :
    Calls Try.prog f args w fun x w' => Q x ∧ Two W w' L b d' r e := by
  obtain ⟨lv, SL, rs, h1, h2⟩ := h
  exact (hc _ sub3 h1).mono fun x w' ⟨h3, h4⟩ => ⟨h3, lv, SL, rs, h4, h2⟩
theorem Two.ref {f : FuncId} {args : Array Value} {Q : Ending → Prop} (h : Two W w L b d r e)
    (hc : ∀ T, (∀ p ∈ L.flatten, p ∈ T.flatten) → RDisk W w T r e → Calls Try.prog f args w fun x w' => Q x ∧ RDisk W w' T r e') :
    Calls Try.prog f args w fun x w' => Q x ∧ Two W w' L b d r e' := by
  obtain ⟨M, SM, fr, h1, h2⟩ := h.turn
  exact (hc _ sub3 h1).mono fun x w' ⟨h3, h4⟩ => ⟨h3, Two.back h4 h2⟩

/-- One act of DiskActs's argument. -/
structure AV where
  kind : Int
  name : Bs
  tgt : Bs
  data : VB
  n : Int
  picks : Value × List Int
def AV.cells (x : AV) : List Value := [.int .i64 x.kind, .string (bstr x.name), .string (bstr x.tgt), x.data.1, .int .i64 x.n, x.picks.1]
structure AV.ok (L : List Seg) (x : AV) : Prop where
  data : VB.ok L x.data
  picks : ∃ A c, x.picks.1 = .slice A x.picks.2.length c ∧ x.picks.2.length ≤ c ∧ RS L 1 (.slice A x.picks.2.length c) x.picks.2.length (i64s x.picks.2)
  ints : ∀ p ∈ x.picks.2, InI p
  n : InI x.n
structure AV.small (x : AV) : Prop where
  data : x.data.2.length ≤ 3000
  name : x.name.length ≤ 3000
  tgt : x.tgt.length ≤ 3000
  picks : x.picks.2.length ≤ 3000
theorem AV.ok.mono {L' : List Seg} {x : AV} (h : x.ok L) (hs : ∀ p ∈ L.flatten, p ∈ L'.flatten) : x.ok L' := by
  obtain ⟨⟨A, c, h1, h2⟩, ⟨A', c', h3, h4, h5⟩, h6, h7⟩ := h
  exact ⟨⟨A, c, h1, h2.mono hs⟩, ⟨A', c', h3, h4, h5.mono hs⟩, h6, h7⟩
theorem AV.ok.rl {x : AV} (h : x.ok L) (hs : x.small) : RL L x.data.1 x.data.2 := by
  obtain ⟨A, c, h1, h2⟩ := h.data
  rw [h1]
  exact ⟨by have := hs.data; omega, h2⟩
theorem AV.ok.ri {x : AV} (h : x.ok L) (hs : x.small) : RI L x.picks.1 x.picks.2 := by
  obtain ⟨A, c, h1, h2, h3⟩ := h.picks
  rw [h1]
  exact ⟨h3, ⟨A, c, rfl, h2⟩, h.ints, by have := hs.picks; omega⟩

def AD.step (d : AD) (x : AV) : AD :=
  if x.kind = 0 then d.app x.name x.data.2 else if x.kind = 1 then d.chg x.name (truncF x.n x.name) else if x.kind = 2 then d.chg x.name (syncF x.name)
  else if x.kind = 3 then d.ren x.name x.tgt else if x.kind = 4 then d.chg x.name (remF x.name) else if x.kind = 5 then d.arm x.n else if x.kind = 6 then d.crash x.picks.2 else d
def AD.stepE (d : AD) (x : AV) : Int :=
  if x.kind = 0 then d.appE x.name else if x.kind = 1 then d.chgE x.name else if x.kind = 2 then d.chgE x.name
  else if x.kind = 3 then d.renE x.name x.tgt else if x.kind = 4 then d.chgE x.name else 0

/-- The files' bounds after k acts. -/
def FOk (k : Nat) (l : List AF) : Prop := l.length ≤ k ∧ ∀ f ∈ l, f.data.length ≤ 3000 * k ∧ f.name.length ≤ 3000 ∧ f.dur ≤ f.data.length
theorem FOk.up {k : Nat} {l : List AF} (h : FOk k l) : FOk (k + 1) l := ⟨by have := h.1; omega, fun f hf => by have := h.2 f hf; omega⟩
theorem updL_len (n : Bs) (g : AF → AF) : ∀ l, (updL n g l).length = l.length
  | [] => rfl
  | f :: l => by unfold updL; split <;> simp [updL_len n g l]
theorem updL_mem (n : Bs) (g : AF → AF) : ∀ (l : List AF) (f : AF), f ∈ updL n g l → f ∈ l ∨ ∃ q ∈ l, f = g q
  | [], f, h => by simp [updL] at h
  | q :: l, f, h => by
    unfold updL at h
    split at h
    · rcases List.mem_cons.1 h with h | h
      · exact .inr ⟨q, by simp, h⟩
      · exact .inl (by simp [h])
    · rcases List.mem_cons.1 h with h | h
      · exact .inl (by simp [h])
      · rcases updL_mem n g l f h with h | ⟨q', h1, h2⟩
        · exact .inl (by simp [h])
        · exact .inr ⟨q', by simp [h1], h2⟩
theorem insL_len (x : AF) : ∀ l : List AF, (insL AF.name x l).length = l.length + 1
  | [] => rfl
  | y :: l => by unfold insL; split <;> simp [insL_len x l]
theorem insL_mem (x : AF) : ∀ (l : List AF) (f : AF), f ∈ insL AF.name x l → f = x ∨ f ∈ l
  | [], f, h => by simp [insL] at h; exact .inl h
  | y :: l, f, h => by
    unfold insL at h
    split at h
    · rcases List.mem_cons.1 h with h | h
      · exact .inl h
      · exact .inr h
    · rcases List.mem_cons.1 h with h | h
      · exact .inr (by simp [h])
      · rcases insL_mem x l f h with h | h
        · exact .inl h
        · exact .inr (by simp [h])
theorem crashL_mem : ∀ (l : List AF) (ps : List Int) (f : AF), f ∈ crashL ps l → ∃ q ∈ l, ∃ ps', f = crash1 ps' q
  | [], _, f, h => by simp [crashL] at h
  | q :: l, ps, f, h => by
    unfold crashL at h
    rcases List.mem_cons.1 h with h | h
    · exact ⟨q, by simp, ps, h⟩
    · obtain ⟨q', h1, ps', h2⟩ := crashL_mem l _ f h
      exact ⟨q', by simp [h1], ps', h2⟩
theorem FOk.upd {k : Nat} {l : List AF} (h : FOk k l) (n : Bs) (g : AF → AF) (hg : ∀ f ∈ l, (g f).data.length ≤ 3000 * (k + 1) ∧ (g f).name.length ≤ 3000 ∧ (g f).dur ≤ (g f).data.length) : FOk (k + 1) (updL n g l) := by
  refine ⟨by rw [updL_len]; have := h.1; omega, fun f hf => ?_⟩
  rcases updL_mem n g l f hf with hf | ⟨q, hq, rfl⟩
  · have := h.2 f hf; omega
  · exact hg q hq
theorem FOk.ins {k : Nat} {l : List AF} (h : FOk k l) (x : AF) (hx : x.data.length ≤ 3000 * (k + 1) ∧ x.name.length ≤ 3000 ∧ x.dur ≤ x.data.length) : FOk (k + 1) (insL AF.name x l) := by
  refine ⟨by rw [insL_len]; have := h.1; omega, fun f hf => ?_⟩
  rcases insL_mem x l f hf with rfl | hf
  · exact hx
  · have := h.2 f hf; omega
theorem FOk.del {k : Nat} {l : List AF} (h : FOk k l) (n : Bs) : FOk k (delL AF.name n l) :=
  ⟨Nat.le_trans (List.length_filter_le _ _) h.1, fun f hf => h.2 f ((List.mem_filter.1 hf).1)⟩
theorem FOk.chg {k : Nat} {n : Bs} {g : List AF → List AF} (h : FOk k d.fs) (hg : FOk (k + 1) (g d.fs)) : FOk (k + 1) (d.chg n g).fs := by
  unfold AD.chg
  split
  · split
    · exact hg
    · rw [wrote_fs]; exact h.up
  · exact h.up

theorem step_fits {k : Nat} {x : AV} (h : FOk k d.fs) (hx : x.small) : FOk (k + 1) (d.step x).fs := by
  have x1 := hx.data
  have x2 := hx.name
  have x3 := hx.tgt
  unfold AD.step
  split
  · unfold AD.app
    split
    · rw [wrote_fs]
      show FOk (k + 1) (d.appF x.name x.data.2)
      unfold AD.appF
      split
      · exact h.ins _ ⟨by simp only; omega, x2, by simp⟩
      · exact h.upd _ _ fun f hf => by have := h.2 f hf; simp only [List.length_append]; omega
    · exact h.up
  split
  · exact h.chg (h.upd _ _ fun f hf => by have := h.2 f hf; simp only [truncG, List.length_take]; omega)
  split
  · exact h.chg (h.upd _ _ fun f hf => by have := h.2 f hf; simp only; omega)
  split
  · unfold AD.ren
    split
    · exact h.up
    · refine h.chg ?_
      unfold renF
      split
      · exact h.up
      · rename_i f hf
        have := h.2 f (List.mem_of_find?_eq_some hf)
        exact ((h.del _).del _).ins _ (by simp only; omega)
  split
  · exact h.chg (h.del _).up
  split
  · exact h.up
  split
  · refine ⟨by show (crashL _ _).length ≤ _; rw [crashL_length]; have := h.1; omega, fun f hf => ?_⟩
    obtain ⟨q, hq, ps, rfl⟩ := crashL_mem _ _ f hf
    have h1 := h.2 q hq
    have h2 := crash1_len ps q h1.2.2
    rw [crash1_name]
    omega
  · exact h.up
end Go.Proofs.Ytfhoblchgeijkaa
