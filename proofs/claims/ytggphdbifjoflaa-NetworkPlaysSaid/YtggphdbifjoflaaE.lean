import Derived.Test.YtggphdbifjoflaaC
import Derived.Test.YtggphdbifjoflaaD
namespace Go.Proofs.Ytggphdbifjoflaa
open Go.RowKit
variable {W w : World} {L : List Seg} {v : Value} {l : List UInt8} {b : Nat} {N x y : Int} {ps : List Pcl}

theorem flat_get (rs : List PR) (i : Nat) (hi : i < rs.length) (j : Nat) (hj : j < 3) : (rs.flatMap PR.cells)[i * 3 + j]? = (rs[i].cells)[j]? := by
  induction rs generalizing i with
  | nil => simp at hi
  | cons r rs ih =>
    cases i with
    | zero =>
      simp only [List.flatMap_cons, Nat.zero_mul, Nat.zero_add, List.getElem_cons_zero]
      rw [List.getElem?_append_left (by simp [PR.cells]; exact hj)]
    | succ i =>
      simp only [List.flatMap_cons, List.getElem_cons_succ]
      rw [List.getElem?_append_right (by simp [PR.cells]; omega)]
      have : (i + 1) * 3 + j - (PR.cells r).length = i * 3 + j := by simp [PR.cells]; omega
      rw [this]
      exact ih i (by simpa using hi)

def PGetNone (P : World → Prop) (e : Ending) (w' : World) : Prop := e = .returned (.tuple #[.agg #[.int .i64 0, .int .i64 0, .slice none 0 0], .bool false]) ∧ P w'
/-- A parcel comes back by value, its bytes in a new row. -/
def PGetSome (W : World) (L : List Seg) (p : Pcl) (e : Ending) (w' : World) : Prop :=
  ∃ A cap S, e = .returned (.tuple #[.agg #[.int .i64 p.f, .int .i64 p.t, .slice A p.d.length cap], .bool true]) ∧ H W w' (S :: L) ∧ OB (.slice A p.d.length cap) p.d S

set_option maxHeartbeats 800000 in
theorem get_nil (i : Int) (hH : H W w L) : Calls Try.prog 9 #[.pointer none, .int .i64 i] w (PGetNone fun w' => H W w' L) := by
  have h' := Lib.hid hH
  clear hH
  by_cases c : i < 0
  · have e1 : decide (i < 0) = true := by simpa using c
    go_enter Try.func9, Try.ntmps9
    go_wp2_with fail
    refine bodyPost_ret (v := .tuple #[.agg #[.int .i64 0, .int .i64 0, .slice none 0 0], .bool false]) (by simp [results, Try.results9, go_sem]) rfl ⟨rfl, ?_⟩
    exact (h'.out.alloc _).drop
  · have e1 : decide (i < 0) = false := by simpa using c
    go_enter Try.func9, Try.ntmps9
    go_wp2_with (go_at_call 13; refine (len_nil _).mono ?_; rintro e w1 ⟨rfl, rfl⟩)
    refine bodyPost_ret (v := .tuple #[.agg #[.int .i64 0, .int .i64 0, .slice none 0 0], .bool false]) (by simp [results, Try.results9, go_sem]) rfl ⟨rfl, ?_⟩
    exact (h'.out.alloc _).drop

set_option maxHeartbeats 800000 in
theorem get_out (i : Int) (A : Option Addr) (n c : Nat) (hH : H W w L) (hq : w.cell? ⟨b, 1, none⟩ = some (.slice A n c)) (hi : i < 0 ∨ (n : Int) ≤ i) :
    Calls Try.prog 9 #[.pointer (some ⟨b, 0, none⟩), .int .i64 i] w (PGetNone fun w' => H W w' L) := by
  have h' := Lib.hid hH
  have hb : b < w.heap.size := World.block_lt_of_cell? _ _ hq
  have hq' : (w.alloc (Obj.cells #[.int .i64 0, .int .i64 0, .slice none 0 0] 30)).cell? ⟨b, 1, none⟩ = some (.slice A n c) := by rw [World.cell?_alloc_lt _ _ _ hb]; exact hq
  have hq2 := Lib.hid hq'
  clear hH hq'
  by_cases c0 : i < 0
  · have e1 : decide (i < 0) = true := by simpa using c0
    clear hi
    go_enter Try.func9, Try.ntmps9
    go_wp2_with fail
    refine bodyPost_ret (v := .tuple #[.agg #[.int .i64 0, .int .i64 0, .slice none 0 0], .bool false]) (by simp [results, Try.results9, go_sem]) rfl ⟨rfl, ?_⟩
    exact (h'.out.alloc _).drop
  · have hi2 : (n : Int) ≤ i := by omega
    have e1 : decide (i < 0) = false := by simpa using c0
    clear hi
    go_enter Try.func9, Try.ntmps9
    go_wp2_with (go_at_call 13; refine (len_cells A n c hq2.out).mono ?_; rintro e w1 ⟨rfl, rfl⟩)
    refine bodyPost_ret (v := .tuple #[.agg #[.int .i64 0, .int .i64 0, .slice none 0 0], .bool false]) (by simp [results, Try.results9, go_sem]) rfl ⟨rfl, ?_⟩
    exact (h'.out.alloc _).drop

theorem NetOk.cells {pv : Value} {SP : Seg} {rs : List PR} (hn : NetOk ps pv SP rs) (hH : H W w L) (hm : ∀ p ∈ SP, p ∈ L.flatten) (k : Nat) (hk : k < rs.length) :
    ∃ g cap, pv = .slice (some ⟨g, 0, none⟩) rs.length cap ∧ rs.length ≤ cap ∧ w.cell? ⟨g, k * 3, none⟩ = some (.int .i64 (rs[k]).p.f) ∧ w.cell? ⟨g, k * 3 + 1, none⟩ = some (.int .i64 (rs[k]).p.t) ∧ w.cell? ⟨g, k * 3 + 2, none⟩ = some (rs[k]).v := by
  obtain ⟨g, cap, hv, _, hlt⟩ := (hn.row.row hH hm).form (by omega)
  have hc := hn.row.cap
  obtain ⟨A, c, hv2, hle⟩ := hc
  have hrow := hn.row.row hH hm
  refine ⟨g, cap, hv, ?_, ?_, ?_, ?_⟩
  · rw [hv] at hv2; simp at hv2; omega
  all_goals
    subst hv
    rw [hrow.cellAt _ (by omega)]
  · rw [show k * 3 = k * 3 + 0 from rfl, flat_get rs k hk 0 (by decide)]; rfl
  · rw [flat_get rs k hk 1 (by decide)]; rfl
  · rw [flat_get rs k hk 2 (by decide)]; rfl

theorem OB.rl {v : Value} {d : List UInt8} {S : Seg} (h : OB v d S) (hl : d.length ≤ 140737488355328) (L : List Seg) : RL (S :: L) v d := ⟨hl, h.rs L⟩

set_option maxHeartbeats 800000 in
theorem get_in (k : Nat) (g cap : Nat) (n : Nat) (p : Pcl) (A : Option Addr) (c : Nat) (hH : H W w L) (hq : w.cell? ⟨b, 1, none⟩ = some (.slice (some ⟨g, 0, none⟩) n cap)) (hk : k < n) (_hnm : n ≤ 4096)
    (c0 : w.cell? ⟨g, k * 3, none⟩ = some (.int .i64 p.f)) (c1 : w.cell? ⟨g, k * 3 + 1, none⟩ = some (.int .i64 p.t)) (c2 : w.cell? ⟨g, k * 3 + 2, none⟩ = some (.slice A p.d.length c)) (hr : RL L (.slice A p.d.length c) p.d) :
    Calls Try.prog 9 #[.pointer (some ⟨b, 0, none⟩), .int .i64 k] w (PGetSome W L p) := by
  have h' := Lib.hid hH
  have hb : b < w.heap.size := World.block_lt_of_cell? _ _ hq
  have hg : g < w.heap.size := World.block_lt_of_cell? _ _ c0
  have hq' : (w.alloc (Obj.cells #[.int .i64 0, .int .i64 0, .slice none 0 0] 30)).cell? ⟨b, 1, none⟩ = some (.slice (some ⟨g, 0, none⟩) n cap) := by rw [World.cell?_alloc_lt _ _ _ hb]; exact hq
  have hq2 := Lib.hid hq'
  clear hH hq'
  have e1 : decide ((k : Int) < 0) = false := by simp
  have e2 : decide ((n : Int) ≤ (k : Int)) = false := by simp; omega
  have hki : (k : Int) < (n : Int) := by omega
  go_enter Try.func9, Try.ntmps9
  go_wp2_with (first | (go_at_call 13; refine (len_cells _ n cap hq2.out).mono ?_; rintro e w1 ⟨rfl, rfl⟩) | (go_at_call 24; refine (clone_any _ _ (h'.out.alloc _) (hr.cons _)).mono ?_; rintro e w1 ⟨A', cap', S, rfl, h1, h2⟩; have d0 := h1.cellAt 1 0 0 rfl rfl rfl; have d1 := h1.cellAt 1 0 1 rfl rfl rfl; have d2 := h1.cellAt 1 0 2 rfl rfl rfl; have f0 := fun k => h1.freeAt 1 0 k rfl rfl))
  have hf := h1.swap.set3 (x := .int .i64 p.f) (y := .int .i64 p.t) (z := .slice A' p.d.length cap')
  have g0 := hf.cellAt 0 0 0 rfl rfl rfl
  have g1 := hf.cellAt 0 0 1 rfl rfl rfl
  have g2 := hf.cellAt 0 0 2 rfl rfl rfl
  refine bodyPost_ret (v := .tuple #[.agg #[.int .i64 p.f, .int .i64 p.t, .slice A' p.d.length cap'], .bool true]) (by simp [results, Try.results9, go_sem, g0, g1, g2]) rfl ⟨A', cap', S, rfl, hf.drop, h2⟩

theorem NetOk.rl {pv : Value} {SP : Seg} {rs : List PR} (hn : NetOk ps pv SP rs) (k : Nat) (hk : k < rs.length) (L : List Seg) : RL (datas rs :: L) (rs[k]).v (rs[k]).p.d := by
  have h := hn.each _ (List.getElem_mem hk)
  refine (OB.rl h.1 h.2 []).mono fun p hp => ?_
  simp only [List.flatten_cons, List.flatten_nil, List.append_nil] at hp
  simp only [List.flatten_cons, List.mem_append]
  left
  exact List.mem_flatMap.2 ⟨_, List.getElem_mem hk, hp⟩

/-- Get, at a network that lies in the blocks held. -/
theorem get_net {pv : Value} {SP : Seg} {rs : List PR} (h : H W w (hdr b N pv :: SP :: datas rs :: L)) (hn : NetOk ps pv SP rs) (k : Nat) (hk : k < rs.length) :
    Calls Try.prog 9 #[.pointer (some ⟨b, 0, none⟩), .int .i64 k] w (PGetSome W (hdr b N pv :: SP :: datas rs :: L) (rs[k]).p) := by
  obtain ⟨g, cap, rfl, hle, c0, c1, c2⟩ := hn.cells h (fun p hp => by simp [hp]) k hk
  obtain ⟨A, c, hv⟩ := (hn.each _ (List.getElem_mem hk)).1.form
  have hr := ((hn.rl k hk L).cons SP).cons (hdr b N (.slice (some ⟨g, 0, none⟩) rs.length cap))
  rw [hv] at hr c2
  exact get_in k g cap rs.length (rs[k]).p A c h (h.cellAt 0 0 1 rfl rfl rfl) hk hn.le c0 c1 c2 hr
end Go.Proofs.Ytggphdbifjoflaa
