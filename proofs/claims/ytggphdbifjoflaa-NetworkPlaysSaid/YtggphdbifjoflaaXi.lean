import Derived.Test.YtggphdbifjoflaaXh
import Derived.Test.YtggphdbifjoflaaXc
namespace Go.Proofs.Ytggphdbifjoflaa
open Go.RowKit
variable {W w : World} {L : List Seg} {v : Value} {l : List UInt8} {b c : Nat} {N x y : Int} {ps qs : List Pcl}

/-- Both networks, the real one at block b and the reference's at block c. -/
def Both (W w : World) (L : List Seg) (b c : Nat) (N : Int) (ps qs : List Pcl) : Prop :=
  ∃ pv SP rs pv' SP' rs', H W w (hdr b N pv :: SP :: datas rs :: rhdr c N pv' :: SP' :: datas rs' :: L) ∧ NetOk ps pv SP rs ∧ RNetOk qs pv' SP' rs'

theorem swap33 {a1 a2 a3 b1 b2 b3 : Seg} (h : H W w (a1 :: a2 :: a3 :: b1 :: b2 :: b3 :: L)) : H W w (b1 :: b2 :: b3 :: a1 :: a2 :: a3 :: L) :=
  ((((h.pick 3 rfl).pick 4 rfl).pick 5 rfl).pick 1 rfl).pick 2 rfl
theorem swap31 {a1 a2 a3 s b1 b2 b3 : Seg} (h : H W w (a1 :: a2 :: a3 :: s :: b1 :: b2 :: b3 :: L)) : H W w (a1 :: a2 :: a3 :: b1 :: b2 :: b3 :: s :: L) :=
  ((((((h.pick 3 rfl).pick 6 rfl).pick 6 rfl).pick 6 rfl).pick 6 rfl).pick 6 rfl).pick 6 rfl
theorem swap32 {a1 a2 a3 s t b1 b2 b3 : Seg} (h : H W w (a1 :: a2 :: a3 :: s :: t :: b1 :: b2 :: b3 :: L)) : H W w (a1 :: a2 :: a3 :: b1 :: b2 :: b3 :: s :: t :: L) :=
  (((((((h.pick 4 rfl).pick 4 rfl).pick 7 rfl).pick 7 rfl).pick 7 rfl).pick 7 rfl).pick 7 rfl).pick 7 rfl

theorem Both.h (h : Both W w L b c N ps qs) : H W w L := by
  obtain ⟨_, _, _, _, _, _, h, _, _⟩ := h
  exact h.drop.drop.drop.drop.drop.drop
theorem Both.real (h : Both W w L b c N ps qs) : ∃ pv' SP' rs', RNetOk qs pv' SP' rs' ∧ Net W w (rhdr c N pv' :: SP' :: datas rs' :: L) b N ps := by
  obtain ⟨pv, SP, rs, pv', SP', rs', h, h1, h2⟩ := h
  exact ⟨pv', SP', rs', h2, pv, SP, rs, h, h1⟩
theorem Both.ofReal {pv' : Value} {SP' : Seg} {rs' : List PR} (h2 : RNetOk qs pv' SP' rs') (h : Net W w (rhdr c N pv' :: SP' :: datas rs' :: L) b N ps) : Both W w L b c N ps qs := by
  obtain ⟨pv, SP, rs, h, h1⟩ := h
  exact ⟨pv, SP, rs, pv', SP', rs', h, h1, h2⟩
theorem Both.ref (h : Both W w L b c N ps qs) : ∃ pv SP rs, NetOk ps pv SP rs ∧ RNet W w (hdr b N pv :: SP :: datas rs :: L) c N qs := by
  obtain ⟨pv, SP, rs, pv', SP', rs', h, h1, h2⟩ := h
  exact ⟨pv, SP, rs, h1, pv', SP', rs', swap33 h, h2⟩
theorem Both.ofRef {pv : Value} {SP : Seg} {rs : List PR} (h1 : NetOk ps pv SP rs) (h : RNet W w (hdr b N pv :: SP :: datas rs :: L) c N qs) : Both W w L b c N ps qs := by
  obtain ⟨pv', SP', rs', h, h2⟩ := h
  exact ⟨pv, SP, rs, pv', SP', rs', swap33 h, h1, h2⟩
theorem Both.drew (h : Both W w L b c N ps qs) (n : Nat) : Both W (w.drewN n) L b c N ps qs := by
  obtain ⟨pv, SP, rs, pv', SP', rs', h, h1, h2⟩ := h
  exact ⟨pv, SP, rs, pv', SP', rs', h.drewN n, h1, h2⟩
theorem Both.drew1 (h : Both W w L b c N ps qs) : Both W w.drew L b c N ps qs := by
  obtain ⟨pv, SP, rs, pv', SP', rs', h, h1, h2⟩ := h
  exact ⟨pv, SP, rs, pv', SP', rs', h.drew, h1, h2⟩
/-- What is made beside them. -/
theorem Both.alloc (h : Both W w L b c N ps qs) (o : Obj) : Both W (w.alloc o) ([(w.heap.size, o)] :: L) b c N ps qs := by
  obtain ⟨pv, SP, rs, pv', SP', rs', h, h1, h2⟩ := h
  exact ⟨pv, SP, rs, pv', SP', rs', ((((((h.alloc o).pick 6 rfl).pick 6 rfl).pick 6 rfl).pick 6 rfl).pick 6 rfl).pick 6 rfl, h1, h2⟩
theorem Both.drop {A : Seg} (h : Both W w (A :: L) b c N ps qs) : Both W w L b c N ps qs := by
  obtain ⟨pv, SP, rs, pv', SP', rs', h, h1, h2⟩ := h
  exact ⟨pv, SP, rs, pv', SP', rs', (h.pick 6 rfl).drop, h1, h2⟩
theorem Both.le1 (h : Both W w L b c N ps qs) : ps.length ≤ 4096 := by
  obtain ⟨pv, SP, rs, pv', SP', rs', h, h1, h2⟩ := h
  rw [← h1.map, List.length_map]; exact h1.le

theorem send1 (p : Pcl) (h : Both W w L b c N ps qs) (hr : RL L v p.d) :
    Calls Try.prog 8 #[.pointer (some ⟨b, 0, none⟩), .agg #[.int .i64 p.f, .int .i64 p.t, v]] w (PErr (sendC N ps p) fun w' => Both W w' L b c N (sendL N ps p) qs) := by
  obtain ⟨pv', SP', rs', h2, h⟩ := h.real
  refine (send_all p h (((hr.cons _).cons _).cons _)).mono ?_
  rintro e w' ⟨rfl, h⟩
  exact ⟨rfl, .ofReal h2 h⟩
theorem send2 (p : Pcl) (h : Both W w L b c N ps qs) (hr : RL L v p.d) :
    Calls Try.prog 15 #[.pointer (some ⟨c, 0, none⟩), .agg #[.int .i64 p.f, .int .i64 p.t, v]] w (PErr (sendC N qs p) fun w' => Both W w' L b c N ps (sendL N qs p)) := by
  obtain ⟨pv, SP, rs, h1, h⟩ := h.ref
  refine (rsend_all p h (((hr.cons _).cons _).cons _)).mono ?_
  rintro e w' ⟨rfl, h⟩
  exact ⟨rfl, .ofRef h1 h⟩
theorem dup1 (i : Int) (h : Both W w L b c N ps qs) :
    Calls Try.prog 10 #[.pointer (some ⟨b, 0, none⟩), .int .i64 i] w (PErr (dupC ps i) fun w' => Both W w' L b c N (dupL ps i) qs) := by
  obtain ⟨pv', SP', rs', h2, h⟩ := h.real
  refine (dup_all i h).mono ?_
  rintro e w' ⟨rfl, h⟩
  exact ⟨rfl, .ofReal h2 h⟩
theorem dup2 (i : Int) (h : Both W w L b c N ps qs) (hok : okN N qs) :
    Calls Try.prog 18 #[.pointer (some ⟨c, 0, none⟩), .int .i64 i] w (PErr (dupC qs i) fun w' => Both W w' L b c N ps (dupL qs i)) := by
  obtain ⟨pv, SP, rs, h1, h⟩ := h.ref
  refine (rdup_all i h hok).mono ?_
  rintro e w' ⟨rfl, h⟩
  exact ⟨rfl, .ofRef h1 h⟩
theorem cor1 (i j : Int) (u : UInt8) (h : Both W w L b c N ps qs) :
    Calls Try.prog 11 #[.pointer (some ⟨b, 0, none⟩), .int .i64 i, .int .i64 j, .int .u8 u.toNat] w (PErr (corC ps i j u) fun w' => Both W w' L b c N (corL ps i j u) qs) := by
  obtain ⟨pv', SP', rs', h2, h⟩ := h.real
  refine (cor_all i j u h).mono ?_
  rintro e w' ⟨rfl, h⟩
  exact ⟨rfl, .ofReal h2 h⟩
theorem cor2 (i j : Int) (u : UInt8) (h : Both W w L b c N ps qs) :
    Calls Try.prog 19 #[.pointer (some ⟨c, 0, none⟩), .int .i64 i, .int .i64 j, .int .u8 u.toNat] w (PErr (corC qs i j u) fun w' => Both W w' L b c N ps (corL qs i j u)) := by
  obtain ⟨pv, SP, rs, h1, h⟩ := h.ref
  refine (rcor_all i j u h).mono ?_
  rintro e w' ⟨rfl, h⟩
  exact ⟨rfl, .ofRef h1 h⟩

/-! Flow and Discard -/
def PFlowB (L : List Seg) (E : TypeId) (q : Pcl → Bool) (ps : List Pcl) (B : List Seg → World → Prop) (e : Ending) (w' : World) : Prop :=
  ∃ A c' S rq, e = .returned (.slice A (ps.filter q).length c') ∧ B (S :: datas rq :: L) w' ∧ OwnS E 3 (.slice A (ps.filter q).length c') rq.length (rq.flatMap PR.cells) S ∧ rq.map PR.p = ps.filter q ∧ ∀ r ∈ rq, r.ok

theorem flow1b (g : Int) (h : Both W w L b c N ps qs) (hok : ∀ p ∈ ps, okP p) :
    Calls Try.prog 20 #[.pointer (some ⟨b, 0, none⟩), .int .i64 g] w (PFlowB L 30 (fun p => flowB g p.f p.t) ps fun L' w' => Both W w' L' b c N (ps.filter fun p => !flowB g p.f p.t) qs) := by
  obtain ⟨pv', SP', rs', h2, h⟩ := h.real
  refine (flow_of h g hok).mono ?_
  rintro e w' ⟨A, c', S, rq, rfl, ⟨pv, SP, rs, h3, h4⟩, h5, h6, h7⟩
  have hl : rq.length = (ps.filter fun p => flowB g p.f p.t).length := by rw [← h6, List.length_map]
  exact ⟨A, c', S, rq, by rw [hl], ⟨pv, SP, rs, pv', SP', rs', swap32 h3, h4, h2⟩, by rw [← hl]; exact h5, h6, h7⟩

theorem RNetOk.vs {pv : Value} {SP : Seg} {rs : List PR} (hn : RNetOk ps pv SP rs) : ∀ r ∈ rs, ∃ A m c, r.v = .slice A m c := fun r hr => by
  obtain ⟨A, c, hv⟩ := (hn.each r hr).1.form; exact ⟨A, _, c, hv⟩
theorem RNetOk.oks {pv : Value} {SP : Seg} {rs : List PR} (hn : RNetOk ps pv SP rs) (hok : ∀ p ∈ ps, okP p) : ∀ r ∈ rs, okP r.p := fun r hr => hok _ (by rw [← hn.map]; exact List.mem_map_of_mem hr)
theorem keep_map {rs : List PR} (q : Pcl → Bool) (h : rs.map PR.p = ps) : (keep q rs).map PR.p = ps.filter fun p => !q p := by
  rw [← h]; unfold keep; rw [List.filter_map]; rfl

theorem flow2b (g : Int) (h : Both W w L b c N ps qs) (hok : ∀ p ∈ qs, okP p) :
    Calls Try.prog 21 #[.pointer (some ⟨c, 0, none⟩), .int .i64 g] w (PFlowB L 43 (fun p => flowB g p.f p.t) qs fun L' w' => Both W w' L' b c N ps (qs.filter fun p => !flowB g p.f p.t)) := by
  obtain ⟨pv, SP, rs, h1, pv', SP', rs', h, h2⟩ := h.ref
  obtain ⟨A, cap, rfl⟩ := h2.row.form
  refine (rflow_in h h2.row rfl h2.le (h2.oks hok) h2.vs).mono ?_
  rintro e w' ⟨A1, c1, S, A2, c2, SP2, rfl, h3, h4, h5⟩
  have hl : (rs'.filter fun r => flowB g r.p.f r.p.t).length = (qs.filter fun p => flowB g p.f p.t).length := by
    rw [← h2.map, List.filter_map, List.length_map]; rfl
  refine ⟨A1, c1, S, rs'.filter fun r => flowB g r.p.f r.p.t, by rw [hl], ⟨pv, SP, rs, _, SP2, keep (fun p => flowB g p.f p.t) rs', ?_, h1, ⟨h4, fun r hr => h2.each r (List.mem_filter.1 hr).1, keep_map _ h2.map, Nat.le_trans (keep_le _ _) h2.le⟩⟩,
    by rw [← hl]; exact h5, by rw [← h2.map, List.filter_map]; rfl, fun r hr => h2.each r (List.mem_filter.1 hr).1⟩
  have h6 := ((h3.pick 3 rfl).dataSplit (fun p => flowB g p.f p.t))
  have h7 : H W w' (rhdr c N (.slice A2 (keep (fun p => flowB g p.f p.t) rs').length c2) :: SP2 :: datas (keep (fun p => flowB g p.f p.t) rs') :: S :: datas (rs'.filter fun r => flowB g r.p.f r.p.t) :: hdr b N pv :: SP :: datas rs :: L) :=
    ((((h6.pick 1 rfl).pick 4 rfl).pick 2 rfl).pick 4 rfl).pick 4 rfl
  exact swap33 (swap32 h7)

theorem disc1b (g : Int) (h : Both W w L b c N ps qs) (hok : ∀ p ∈ ps, okP p) :
    Calls Try.prog 22 #[.pointer (some ⟨b, 0, none⟩), .int .i64 g] w (PErr (ps.filter fun p => discB g p.f p.t).length fun w' => Both W w' L b c N (ps.filter fun p => !discB g p.f p.t) qs) := by
  obtain ⟨pv', SP', rs', h2, h⟩ := h.real
  obtain ⟨A, c', SP, rs, h3, h4, _⟩ := h.open
  refine (disc_net g h3 h4 hok).mono ?_
  rintro e w' ⟨rfl, h⟩
  exact ⟨rfl, .ofReal h2 h⟩
theorem disc2b (g : Int) (h : Both W w L b c N ps qs) (hok : ∀ p ∈ qs, okP p) :
    Calls Try.prog 23 #[.pointer (some ⟨c, 0, none⟩), .int .i64 g] w (PErr (qs.filter fun p => discB g p.f p.t).length fun w' => Both W w' L b c N ps (qs.filter fun p => !discB g p.f p.t)) := by
  obtain ⟨pv, SP, rs, h1, pv', SP', rs', h, h2⟩ := h.ref
  obtain ⟨A, cap, rfl⟩ := h2.row.form
  refine (rdisc_in h h2.row rfl h2.le (h2.oks hok) h2.vs).mono ?_
  rintro e w' ⟨A2, c2, SP2, rfl, h3, h4⟩
  have hl : (rs'.filter fun r => discB g r.p.f r.p.t).length = (qs.filter fun p => discB g p.f p.t).length := by
    rw [← h2.map, List.filter_map, List.length_map]; rfl
  refine ⟨by rw [hl], ⟨pv, SP, rs, _, SP2, keep (fun p => discB g p.f p.t) rs', ?_, h1, ⟨h4, fun r hr => h2.each r (List.mem_filter.1 hr).1, keep_map _ h2.map, Nat.le_trans (keep_le _ _) h2.le⟩⟩⟩
  have h6 := (((h3.pick 2 rfl).dataSplit (fun p => discB g p.f p.t)).pick 1 rfl).drop
  exact swap33 ((h6.pick 2 rfl).pick 2 rfl)

/-! Take -/
def PTakeB (L : List Seg) (i : Int) (ps : List Pcl) (B : List Seg → List Pcl → World → Prop) (e : Ending) (w' : World) : Prop :=
  ∃ (p : Pcl) (t : Bool) (A : Option Addr) (c' : Nat) (S : Seg), e = .returned (.tuple #[.agg #[.int .i64 p.f, .int .i64 p.t, .slice A p.d.length c'], .bool t]) ∧ RL (S :: L) (.slice A p.d.length c') p.d ∧
    B (S :: L) (match atI ps i with | none => ps | some _ => ps.eraseIdx i.toNat) w' ∧ t = (atI ps i).isSome ∧ p = (atI ps i).getD ⟨0, 0, []⟩

theorem Both.addNil (h : Both W w L b c N ps qs) : Both W w ([] :: L) b c N ps qs := by
  obtain ⟨pv, SP, rs, pv', SP', rs', h, h1, h2⟩ := h
  exact ⟨pv, SP, rs, pv', SP', rs', h.perm (by simp), h1, h2⟩
theorem lenP {pv : Value} {SP : Seg} {rs : List PR} (h : NetOk ps pv SP rs) {p : Pcl} (hp : p ∈ ps) : p.d.length ≤ 140737488355328 := by
  rw [← h.map] at hp
  obtain ⟨r, hr, rfl⟩ := List.mem_map.1 hp
  exact (h.each r hr).2
theorem rlenP {pv : Value} {SP : Seg} {rs : List PR} (h : RNetOk ps pv SP rs) {p : Pcl} (hp : p ∈ ps) : p.d.length ≤ 140737488355328 := by
  rw [← h.map] at hp
  obtain ⟨r, hr, rfl⟩ := List.mem_map.1 hp
  exact (h.each r hr).2

theorem take1b (i : Int) (h : Both W w L b c N ps qs) :
    Calls Try.prog 12 #[.pointer (some ⟨b, 0, none⟩), .int .i64 i] w (PTakeB L i ps fun L' ps' w' => Both W w' L' b c N ps' qs) := by
  obtain ⟨pv', SP', rs', h2, h⟩ := h.real
  obtain ⟨A, cp, SP, rs, h1, hn, hlen⟩ := h.open
  have hq : w.cell? ⟨b, 1, none⟩ = some (.slice A ps.length cp) := h1.cellAt 0 0 1 rfl rfl rfl
  cases hi : atI ps i with
  | none =>
    refine (take_out i A ps.length cp h1 hq (atI_none hi)).mono ?_
    rintro e w' ⟨rfl, h3⟩
    exact ⟨⟨0, 0, []⟩, false, none, 0, [], rfl, RL.nil _, by rw [hi]; exact Both.addNil ⟨_, SP, rs, _, SP', rs', h3, hn, h2⟩, by rw [hi]; rfl, by rw [hi]; rfl⟩
  | some p =>
    obtain ⟨k, rfl, hk, hkl⟩ := atI_some hi
    refine (take_net h1 hn k p hk).mono ?_
    rintro e w' ⟨A', c', S, rfl, ⟨pv, SP, rs, h3, h4⟩, h5⟩
    exact ⟨p, true, A', c', S, rfl, OB.rl h5 (lenP hn (List.mem_of_getElem? hk)) L, by rw [hi]; exact ⟨pv, SP, rs, pv', SP', rs', swap31 h3, h4, h2⟩, by rw [hi]; rfl, by rw [hi]; rfl⟩

theorem take2b (i : Int) (h : Both W w L b c N ps qs) :
    Calls Try.prog 16 #[.pointer (some ⟨c, 0, none⟩), .int .i64 i] w (PTakeB L i qs fun L' qs' w' => Both W w' L' b c N ps qs') := by
  obtain ⟨pv, SP, rs, hn1, h⟩ := h.ref
  obtain ⟨A, cp, SP', rs', h1, hn, hlen⟩ := h.open
  have hq : w.cell? ⟨c, 1, none⟩ = some (.slice A qs.length cp) := h1.cellAt 0 0 1 rfl rfl rfl
  cases hi : atI qs i with
  | none =>
    refine (rtake_out i A qs.length cp h1 hq (atI_none hi)).mono ?_
    rintro e w' ⟨rfl, h3⟩
    exact ⟨⟨0, 0, []⟩, false, none, 0, [], rfl, RL.nil _, by rw [hi]; exact Both.addNil ⟨pv, SP, rs, _, SP', rs', swap33 h3, hn1, hn⟩, by rw [hi]; rfl, by rw [hi]; rfl⟩
  | some p =>
    obtain ⟨k, rfl, hk, hkl⟩ := atI_some hi
    refine (rtake_net h1 hn k p hk).mono ?_
    rintro e w' ⟨A', c', S, rfl, ⟨pv2, SP2, rs2, h3, h4⟩, h5⟩
    exact ⟨p, true, A', c', S, rfl, OB.rl h5 (rlenP hn (List.mem_of_getElem? hk)) L, by rw [hi]; exact ⟨pv, SP, rs, pv2, SP2, rs2, swap33 (swap31 h3), hn1, h4⟩, by rw [hi]; rfl, by rw [hi]; rfl⟩

theorem get1b (i : Int) (h : Both W w L b c N ps qs) :
    Calls Try.prog 9 #[.pointer (some ⟨b, 0, none⟩), .int .i64 i] w (PTakeB L i ps fun L' _ w' => Both W w' L' b c N ps qs) := by
  obtain ⟨pv', SP', rs', h2, h⟩ := h.real
  obtain ⟨A, cp, SP, rs, h1, hn, hlen⟩ := h.open
  have hq : w.cell? ⟨b, 1, none⟩ = some (.slice A ps.length cp) := h1.cellAt 0 0 1 rfl rfl rfl
  cases hi : atI ps i with
  | none =>
    refine (get_out i A ps.length cp h1 hq (atI_none hi)).mono ?_
    rintro e w' ⟨rfl, h3⟩
    exact ⟨⟨0, 0, []⟩, false, none, 0, [], rfl, RL.nil _, Both.addNil ⟨_, SP, rs, _, SP', rs', h3, hn, h2⟩, by rw [hi]; rfl, by rw [hi]; rfl⟩
  | some p =>
    obtain ⟨k, rfl, hk, hkl⟩ := atI_some hi
    have hkr : k < rs.length := by omega
    have hp : (rs[k]).p = p := by
      have := hk; rw [← hn.map, List.getElem?_map, List.getElem?_eq_getElem hkr] at this; simpa using this
    refine (get_net h1 hn k hkr).mono ?_
    rw [hp]
    rintro e w' ⟨A', c', S, rfl, h3, h5⟩
    exact ⟨p, true, A', c', S, rfl, OB.rl h5 (lenP hn (List.mem_of_getElem? hk)) L, ⟨_, SP, rs, pv', SP', rs', ((((((h3.pick 6 rfl).pick 6 rfl).pick 6 rfl).pick 6 rfl).pick 6 rfl).pick 6 rfl), hn, h2⟩, by rw [hi]; rfl, by rw [hi]; rfl⟩

theorem len1b (h : Both W w L b c N ps qs) : Calls Try.prog 13 #[.pointer (some ⟨b, 0, none⟩)] w (PInt ps.length fun w' => w = w') := by
  obtain ⟨pv', SP', rs', h2, h⟩ := h.real
  exact len_net h

/-- The reference's field, as the law reads it. -/
theorem Both.refCell (h : Both W w L b c N ps qs) : ∃ A cp, w.cell? ⟨c, 1, none⟩ = some (.slice A qs.length cp) := by
  obtain ⟨pv, SP, rs, h1, h⟩ := h.ref
  obtain ⟨A, cp, SP', rs', h1, hn, hlen⟩ := h.open
  exact ⟨A, cp, h1.cellAt 0 0 1 rfl rfl rfl⟩

theorem new1 (p : Int) (h : H W w L) : Calls Try.prog 7 #[.int .i64 p] w fun e w' => ∃ b, e = .returned (.pointer (some ⟨b, 0, none⟩)) ∧ Net W w' L b (clampN p) [] := new_any p h

/-! What is kept: every parcel lies within the ports. -/
theorem okN.send (h : okN N ps) (p : Pcl) : okN N (sendL N ps p) := by
  unfold sendL
  split
  · split
    · intro q hq
      rcases List.mem_append.1 hq with hq | hq
      · exact h q hq
      · obtain rfl := by simpa using hq
        assumption
    · exact h
  · exact h
theorem okN.dup (h : okN N ps) (i : Int) : okN N (dupL ps i) := by
  unfold dupL
  split
  · exact h
  · rename_i p hp
    split
    · intro q hq
      rcases List.mem_append.1 hq with hq | hq
      · exact h q hq
      · obtain rfl := by simpa using hq
        obtain ⟨k, _, hk, _⟩ := atI_some hp
        exact h _ (List.mem_of_getElem? hk)
    · exact h
theorem okN.cor (h : okN N ps) (i j : Int) (u : UInt8) : okN N (corL ps i j u) := by
  unfold corL
  split
  · exact h
  · rename_i p hp
    split
    · exact h
    · intro q hq
      rcases List.mem_or_eq_of_mem_set hq with hq | rfl
      · exact h q hq
      · obtain ⟨k, _, hk, _⟩ := atI_some hp
        exact h p (List.mem_of_getElem? hk)
theorem okN.erase (h : okN N ps) (k : Nat) : okN N (ps.eraseIdx k) := fun q hq => h q (List.mem_of_mem_eraseIdx hq)
theorem okN.filter (h : okN N ps) (q : Pcl → Bool) : okN N (ps.filter q) := fun p hp => h p (List.mem_filter.1 hp).1
theorem okN.okP (h : okN N ps) (hN : N ≤ 62) : ∀ p ∈ ps, okP p := fun p hp => by
  obtain ⟨h1, h2, h3, h4⟩ := h p hp
  exact ⟨h1, by omega, h3, by omega⟩
theorem clampN_le (p : Int) : clampN p ≤ 62 := by unfold clampN; split <;> (try split) <;> omega
end Go.Proofs.Ytggphdbifjoflaa
