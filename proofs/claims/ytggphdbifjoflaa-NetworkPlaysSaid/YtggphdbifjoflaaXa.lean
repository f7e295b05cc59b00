import Derived.Test.YtggphdbifjoflaaT
namespace Go.Proofs.Ytggphdbifjoflaa
open Go.RowKit
variable {W w : World} {L : List Seg} {v : Value} {l : List UInt8} {b : Nat} {N x y : Int} {ps : List Pcl}

theorem i43 : (Try.prog.info? 43).map (fun i => (i.zero, i.size, i.bytes)) = some (some (.agg #[.int .i64 0, .int .i64 0, .slice none 0 0]), 3, 40) := by kernel_rfl
theorem et49 : ET Try.prog 49 43 3 40 := by
  obtain ⟨i, hi, h1, h2, h3⟩ := info_parts i43
  exact ⟨i, _, Try.underlying49, hi, h1, h2, h3, rfl, by decide⟩

structure RNetOk (ps : List Pcl) (pv : Value) (SP : Seg) (rs : List PR) : Prop where
  row : OwnS 43 3 pv rs.length (rs.flatMap PR.cells) SP
  each : ∀ r ∈ rs, r.ok
  map : rs.map PR.p = ps
  le : rs.length ≤ 4096
def rhdr (b : Nat) (N : Int) (pv : Value) : Seg := [(b, .cells #[.int .i64 N, pv] 53 (0, 0))]
/-- The reference's network at block b. -/
def RNet (W w : World) (L : List Seg) (b : Nat) (N : Int) (ps : List Pcl) : Prop :=
  ∃ pv SP rs, H W w (rhdr b N pv :: SP :: datas rs :: L) ∧ RNetOk ps pv SP rs

def PRNew (W : World) (L : List Seg) (N : Int) (e : Ending) (w' : World) : Prop := ∃ b, e = .returned (.pointer (some ⟨b, 0, none⟩)) ∧ RNet W w' L b N []

theorem rnet_new (h : H W w L) (N : Int) : RNet W (w.alloc (.cells #[.int .i64 N, .slice none 0 0] 53)) L w.heap.size N [] :=
  ⟨.slice none 0 0, [], [], (h.alloc _).addNil.addNil.pick 2 rfl, OwnS.nil _ _, by simp, rfl, by simp⟩

set_option maxHeartbeats 400000 in
theorem rnew_any (p : Int) (hH : H W w L) : Calls Try.prog 14 #[.int .i64 p] w (PRNew W L (clampN p)) := by
  go_enter Try.func14, Try.ntmps14
  go_wp2
  all_goals (
    go_ret
    refine ⟨_, rfl, ?_⟩
    first
    | (rw [show clampN p = 0 by unfold clampN; rw [if_pos (by omega)]]; exact rnet_new hH _)
    | (rw [show clampN p = 62 by unfold clampN; rw [if_neg (by omega), if_pos (by omega)]]; exact rnet_new hH _)
    | (rw [show clampN p = p by unfold clampN; rw [if_neg (by omega), if_neg (by omega)]]; exact rnet_new hH _)
    | (rw [show clampN p = 0 by unfold clampN; split <;> first | rfl | (split <;> omega)]; exact rnet_new hH _))

theorem RNet.drop {A : Seg} (h : RNet W w (A :: L) b N ps) : RNet W w L b N ps := by
  obtain ⟨pv, SP, rs, h1, h2⟩ := h
  exact ⟨pv, SP, rs, (((h1.pick 3 rfl).drop)), h2⟩
theorem RNet.h (h : RNet W w L b N ps) : H W w L := by
  obtain ⟨pv, SP, rs, h1, h2⟩ := h
  exact h1.drop.drop.drop
theorem RNet.open (h : RNet W w L b N ps) : ∃ A c SP rs, H W w (rhdr b N (.slice A ps.length c) :: SP :: datas rs :: L) ∧ RNetOk ps (.slice A ps.length c) SP rs ∧ rs.length = ps.length := by
  obtain ⟨pv, SP, rs, h1, h2⟩ := h
  obtain ⟨A, c, rfl⟩ := h2.row.form
  have e : rs.length = ps.length := by rw [← h2.map, List.length_map]
  rw [e] at h1 h2
  exact ⟨A, c, SP, rs, h1, h2, e⟩

theorem RNetOk.cells {pv : Value} {SP : Seg} {rs : List PR} (hn : RNetOk ps pv SP rs) (hH : H W w L) (hm : ∀ p ∈ SP, p ∈ L.flatten) (k : Nat) (hk : k < rs.length) :
    ∃ g cap, pv = .slice (some ⟨g, 0, none⟩) rs.length cap ∧ rs.length ≤ cap ∧ w.cell? ⟨g, k * 3, none⟩ = some (.int .i64 (rs[k]).p.f) ∧ w.cell? ⟨g, k * 3 + 1, none⟩ = some (.int .i64 (rs[k]).p.t) ∧ w.cell? ⟨g, k * 3 + 2, none⟩ = some (rs[k]).v := by
  obtain ⟨g, cap, hv, _, hlt⟩ := (hn.row.row hH hm).form (by omega)
  have hc := hn.row.cap
  obtain ⟨A, c, hv2, hle⟩ := hc
  have hrow := hn.row.row hH hm
  refine ⟨g, cap, hv, ?_, ?_, ?_, ?_⟩
  · rw [hv] at hv2; simp at hv2; omega
  all_goals
    subst hv
    rw [hrow.cellAt _ (by omega)]
  · rw [show k * 3 = k * 3 + 0 from rfl, flat_get rs k hk 0 (by decide)]; rfl
  · rw [flat_get rs k hk 1 (by decide)]; rfl
  · rw [flat_get rs k hk 2 (by decide)]; rfl

theorem RNetOk.rl {pv : Value} {SP : Seg} {rs : List PR} (hn : RNetOk ps pv SP rs) (k : Nat) (hk : k < rs.length) (L : List Seg) : RL (datas rs :: L) (rs[k]).v (rs[k]).p.d := by
  have h := hn.each _ (List.getElem_mem hk)
  refine (OB.rl h.1 h.2 []).mono fun p hp => ?_
  simp only [List.flatten_cons, List.flatten_nil, List.append_nil] at hp
  simp only [List.flatten_cons, List.mem_append]
  left
  exact List.mem_flatMap.2 ⟨_, List.getElem_mem hk, hp⟩

set_option maxRecDepth 100000 in
set_option maxHeartbeats 1600000 in
theorem rsend_bad (x y : Int) (A : Option Addr) (n c : Nat) (hH : H W w L) (hp : w.cell? ⟨b, 0, none⟩ = some (.int .i64 N)) (hbad : x < 0 ∨ N ≤ x ∨ y < 0 ∨ N ≤ y) :
    Calls Try.prog 15 #[.pointer (some ⟨b, 0, none⟩), .agg #[.int .i64 x, .int .i64 y, .slice A n c]] w (PErr 1 fun w' => H W w' L) := by
  have hb : b < w.heap.size := World.block_lt_of_cell? _ _ hp
  have h' := Lib.hid hH
  clear hH
  by_cases c1 : x < 0
  · have e1 : decide (x < 0) = true := by simpa using c1
    clear hbad
    go_enter Try.func15, Try.ntmps15
    go_wp2_with fail
    go_quiet (fail)
    go_wp2_with fail
    go_ret
    exact ⟨rfl, ((h'.out.alloc _).drop).drewN _⟩
  · by_cases c2 : N ≤ x
    · have e1 : decide (x < 0) = false := by simpa using c1
      have e2 : decide (N ≤ x) = true := by simpa using c2
      clear hbad
      go_enter Try.func15, Try.ntmps15
      go_wp2_with fail
      go_quiet (fail)
      go_wp2_with fail
      go_ret
      exact ⟨rfl, ((h'.out.alloc _).drop).drewN _⟩
    · by_cases c3 : y < 0
      · have e1 : decide (x < 0) = false := by simpa using c1
        have e2 : decide (N ≤ x) = false := by simpa using c2
        have e3 : decide (y < 0) = true := by simpa using c3
        clear hbad
        go_enter Try.func15, Try.ntmps15
        go_wp2_with fail
        go_quiet (fail)
        go_wp2_with fail
        go_ret
        exact ⟨rfl, ((h'.out.alloc _).drop).drewN _⟩
      · have c4 : N ≤ y := by omega
        have e1 : decide (x < 0) = false := by simpa using c1
        have e2 : decide (N ≤ x) = false := by simpa using c2
        have e3 : decide (y < 0) = false := by simpa using c3
        have e4 : decide (N ≤ y) = true := by simpa using c4
        clear hbad
        go_enter Try.func15, Try.ntmps15
        go_wp2_with fail
        go_quiet (fail)
        go_wp2_with fail
        go_ret
        exact ⟨rfl, ((h'.out.alloc _).drop).drewN _⟩

set_option maxRecDepth 100000 in
set_option maxHeartbeats 800000 in
theorem rsend_full (x y : Int) (A A' : Option Addr) (n c c' : Nat) (hH : H W w L) (hp : w.cell? ⟨b, 0, none⟩ = some (.int .i64 N)) (hq : w.cell? ⟨b, 1, none⟩ = some (.slice A' 4096 c'))
    (hx0 : 0 ≤ x) (hx1 : x < N) (hy0 : 0 ≤ y) (hy1 : y < N) :
    Calls Try.prog 15 #[.pointer (some ⟨b, 0, none⟩), .agg #[.int .i64 x, .int .i64 y, .slice A n c]] w (PErr 5 fun w' => H W w' L) := by
  have hb : b < w.heap.size := World.block_lt_of_cell? _ _ hp
  have h' := Lib.hid hH
  clear hH
  have e1 : decide (x < 0) = false := by simp; omega
  have e2 : decide (N ≤ x) = false := by simp; omega
  have e3 : decide (y < 0) = false := by simp; omega
  have e4 : decide (N ≤ y) = false := by simp; omega
  go_enter Try.func15, Try.ntmps15
  go_wp2_with fail
  go_quiet (fail)
  go_wp2_with fail
  go_ret
  exact ⟨rfl, ((h'.out.alloc _).drop).drewN _⟩
end Go.Proofs.Ytggphdbifjoflaa
