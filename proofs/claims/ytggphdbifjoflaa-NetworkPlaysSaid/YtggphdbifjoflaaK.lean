import Derived.Test.YtggphdbifjoflaaJ
namespace Go.Proofs.Ytggphdbifjoflaa
open Go.RowKit
variable {W w : World} {L : List Seg} {v : Value} {l : List UInt8} {b : Nat} {N x y : Int} {ps : List Pcl}

def keep (q : Pcl → Bool) (rs : List PR) : List PR := rs.filter fun r => !q r.p

def PDel (W : World) (L : List Seg) (C : Seg) (g cap : Nat) (q : Pcl → Bool) (rs : List PR) (e : Ending) (w' : World) : Prop :=
  ∃ new : Array Value, e = .returned (.slice (some ⟨g, 0, none⟩) (keep q rs).length cap) ∧ H W w' (C :: [(g, .cells new 30 (0, 0))] :: L) ∧ new.size = cap * 3 ∧
    new.toList.take ((keep q rs).length * 3) = (keep q rs).flatMap PR.cells

theorem keep_all {q : Pcl → Bool} {rs : List PR} (h : ∀ r ∈ rs, q r.p = false) : keep q rs = rs := by
  unfold keep; rw [List.filter_eq_self]; intro r hr; simp [h r hr]

theorem keep_first {q : Pcl → Bool} {rs : List PR} {k : Nat} (hk : k < rs.length) (hq : q (rs[k]).p = true) (h : ∀ j (hj : j < k), q (rs[j]).p = false) : keep q (rs.take (k + 1)) = rs.take k := by
  rw [List.take_succ_eq_append_getElem hk]
  unfold keep
  rw [List.filter_append]
  have : (rs.take k).filter (fun r => !q r.p) = rs.take k := by
    rw [List.filter_eq_self]
    intro r hr
    obtain ⟨j, hj, rfl⟩ := List.getElem_of_mem hr
    simp only [List.length_take] at hj
    simp [List.getElem_take, h j (by omega)]
  rw [this]
  simp [hq]

/-- What the loop of DeleteFunc keeps. -/
structure DelInv (q : Pcl → Bool) (rs : List PR) (cur cur' : Array Value) (a c : Nat) : Prop where
  lt : a < c
  le : c ≤ rs.length
  size : cur'.size = cur.size
  len : (keep q (rs.take c)).length = a
  take : cur'.toList.take (a * 3) = (keep q (rs.take c)).flatMap PR.cells
  drop : ∀ j, c * 3 ≤ j → cur'[j]? = cur[j]?

theorem DelInv.start {q : Pcl → Bool} {rs : List PR} {cur : Array Value} {n : Nat} (hn : rs.length = n) (ht : cur.toList.take (n * 3) = rs.flatMap PR.cells) {k : Nat} (hk : k < rs.length) (hq : q (rs[k]).p = true) (h : ∀ j (hj : j < k), q (rs[j]).p = false) :
    DelInv q rs cur cur k (k + 1) := by
  have e := keep_first hk hq h
  refine ⟨by omega, by omega, rfl, by rw [e, List.length_take]; omega, ?_, fun j _ => rfl⟩
  rw [e, flat_take, ← ht, List.take_take, Nat.min_eq_left (by omega)]

theorem DelInv.skip {q : Pcl → Bool} {rs : List PR} {cur cur' : Array Value} {a c : Nat} (h : DelInv q rs cur cur' a c) (hc : c < rs.length) (hq : q (rs[c]).p = true) : DelInv q rs cur cur' a (c + 1) := by
  have e : keep q (rs.take (c + 1)) = keep q (rs.take c) := by
    rw [List.take_succ_eq_append_getElem hc]; unfold keep; rw [List.filter_append]; simp [hq]
  exact ⟨by have := h.lt; omega, by omega, h.size, by rw [e]; exact h.len, by rw [e]; exact h.take, fun j hj => h.drop j (by omega)⟩

theorem DelInv.move {q : Pcl → Bool} {rs : List PR} {cur cur' : Array Value} {a c : Nat} (h : DelInv q rs cur cur' a c) (hc : c < rs.length) (hsz : rs.length * 3 ≤ cur.size) (hq : q (rs[c]).p = false) :
    DelInv q rs cur (((cur'.setIfInBounds (a * 3) (.int .i64 (rs[c]).p.f)).setIfInBounds (a * 3 + 1) (.int .i64 (rs[c]).p.t)).setIfInBounds (a * 3 + 2) (rs[c]).v) (a + 1) (c + 1) := by
  have e : keep q (rs.take (c + 1)) = keep q (rs.take c) ++ [rs[c]] := by
    rw [List.take_succ_eq_append_getElem hc]; unfold keep; rw [List.filter_append]; simp [hq]
  have hlt := h.lt
  refine ⟨by omega, by omega, by simp [h.size], by rw [e]; simp [h.len], ?_, fun j hj => ?_⟩
  · rw [e, List.flatMap_append, ← h.take]
    apply List.ext_getElem?
    intro j
    have hcs : cur'.size = cur.size := h.size
    rw [List.getElem?_take]
    by_cases h1 : j < a * 3
    · rw [if_pos (by omega), List.getElem?_append_left (by simp; omega), List.getElem?_take, if_pos h1]
      simp only [Array.getElem?_toList, Array.getElem?_setIfInBounds]
      rw [if_neg (by omega), if_neg (by omega), if_neg (by omega)]
    · rw [List.getElem?_append_right (by simp; omega)]
      have hl : (cur'.toList.take (a * 3)).length = a * 3 := by simp; omega
      rw [hl]
      by_cases h2 : j < (a + 1) * 3
      · rw [if_pos h2]
        simp only [Array.getElem?_toList, Array.getElem?_setIfInBounds, Array.size_setIfInBounds]
        rcases (show j = a * 3 ∨ j = a * 3 + 1 ∨ j = a * 3 + 2 by omega) with rfl | rfl | rfl
        · simp [PR.cells, show a * 3 < cur'.size by omega]
        · simp [PR.cells, show a * 3 + 1 < cur'.size by omega]
        · simp [PR.cells, show a * 3 + 2 < cur'.size by omega]
      · rw [if_neg h2, List.getElem?_eq_none (by simp [PR.cells]; omega)]
  · simp only [Array.getElem?_setIfInBounds]
    rw [if_neg (by omega), if_neg (by omega), if_neg (by omega)]
    exact h.drop j (by omega)

set_option maxHeartbeats 1600000 in
theorem idx_flow_nil (A : Option Addr) (cap : Nat) (fv : Value) (w : World) :
    Calls Try.prog 32 #[.slice A 0 cap, fv] w fun e w' => e = .returned (.int .i64 (-1)) ∧ w = w' := by
  go_enter Try.func32, Try.ntmps32
  go_wp2
  go_loop [8] (fun i => i = .int .i64 0) (fun _ => 0)
  case atStart => rfl
  case round =>
    obtain rfl := hrel
    go_wp2
    go_ret
    exact ⟨rfl, rfl⟩

set_option maxHeartbeats 1600000 in
theorem del_nil (A : Option Addr) (cap : Nat) (fv : Value) (w : World) :
    Calls Try.prog 31 #[.slice A 0 cap, fv] w fun e w' => e = .returned (.slice A 0 cap) ∧ w = w' := by
  go_enter Try.func31, Try.ntmps31
  go_wp2_with (go_at_call 32; refine (idx_flow_nil A cap fv _).mono ?_; rintro e w1 ⟨rfl, rfl⟩)
  go_ret
  exact ⟨rfl, rfl⟩
end Go.Proofs.Ytggphdbifjoflaa
