import Derived.Test.YtggphdbifjoflaaI
namespace Go.Proofs.Ytggphdbifjoflaa
open Go.RowKit
variable {W w : World} {L : List Seg} {v : Value} {l : List UInt8} {b : Nat} {N x y : Int} {ps : List Pcl}

/-- The block of the captured group. -/
def clo (bx : Nat) (gv : Int) : Seg := [(bx, .cells #[.int .i64 gv] 3 (0, 0))]
def okP (p : Pcl) : Prop := 0 ≤ p.f ∧ p.f < 62 ∧ 0 ≤ p.t ∧ p.t < 62

/-- The first index at which q holds, or -1. -/
def PIdx (W : World) (L : List Seg) (q : Pcl → Bool) (rs : List PR) (e : Ending) (w' : World) : Prop :=
  H W w' L ∧ ((∃ k : Nat, ∃ hk : k < rs.length, e = .returned (.int .i64 k) ∧ q (rs[k]).p = true ∧ ∀ j (hj : j < k), q (rs[j]).p = false) ∨
    (e = .returned (.int .i64 (-1)) ∧ ∀ r ∈ rs, q r.p = false))

/-- What a range over the rows needs. -/
structure Rows3 (w : World) (g : Nat) (rs : List PR) : Prop where
  c0 : ∀ k (hk : k < rs.length), w.cell? ⟨g, k * 3, none⟩ = some (.int .i64 (rs[k]).p.f)
  c1 : ∀ k (hk : k < rs.length), w.cell? ⟨g, k * 3 + 1, none⟩ = some (.int .i64 (rs[k]).p.t)
  c2 : ∀ k (hk : k < rs.length), w.cell? ⟨g, k * 3 + 2, none⟩ = some (rs[k]).v

theorem rows3 {rs : List PR} {g n cap : Nat} {S : Seg} (h : OwnS 30 3 (.slice (some ⟨g, 0, none⟩) n cap) n (rs.flatMap PR.cells) S) (hH : H W w L) (hm : ∀ p ∈ S, p ∈ L.flatten) (hlen : rs.length = n) : Rows3 w g rs := by
  have hrow := h.row hH hm
  constructor <;> intro k hk
  · rw [hrow.cellAt _ (by omega), show k * 3 = k * 3 + 0 from rfl, flat_get rs k hk 0 (by decide)]; rfl
  · rw [hrow.cellAt _ (by omega), flat_get rs k hk 1 (by decide)]; rfl
  · rw [hrow.cellAt _ (by omega), flat_get rs k hk 2 (by decide)]; rfl

set_option maxHeartbeats 1600000 in
theorem idx_flow {rs : List PR} {g n cap bx : Nat} {gv : Int} {S : Seg} (h : H W w (clo bx gv :: S :: L)) (hs : OwnS 30 3 (.slice (some ⟨g, 0, none⟩) n cap) n (rs.flatMap PR.cells) S) (hlen : rs.length = n) (hn : n ≤ 4096)
    (hok : ∀ r ∈ rs, okP r.p) (hv : ∀ r ∈ rs, ∃ A m c, r.v = .slice A m c) :
    Calls Try.prog 32 #[.slice (some ⟨g, 0, none⟩) n cap, .func (.func 26) #[] #[.pointer (some ⟨bx, 0, none⟩)]] w (PIdx W (clo bx gv :: S :: L) (fun p => flowB gv p.f p.t) rs) := by
  have h' := Lib.hid h
  have hs' := Lib.hid hs
  have hlen' := Lib.hid hlen
  have hok' := Lib.hid hok
  have hv' := Lib.hid hv
  clear h hs hlen hok hv
  go_enter Try.func32, Try.ntmps32
  go_wp2
  go_loopw [8] (fun i wr => ∃ k : Nat, k ≤ n ∧ i = .int .i64 k ∧ H W wr (clo bx gv :: S :: L) ∧ ∀ j (hj : j < rs.length), j < k → flowB gv (rs[j]).p.f (rs[j]).p.t = false) (fun i _ => n - (intOf i).toNat)
  case atStart => exact ⟨0, Nat.zero_le _, rfl, h'.out, fun j _ hj => absurd hj (by omega)⟩
  case round =>
    obtain ⟨k, hk, rfl, hH, hall⟩ := hrel
    have hH' := Lib.hid hH
    have hall' := Lib.hid hall
    clear hH hall
    by_cases hlt : k < n
    · have hkr : k < rs.length := by rw [hlen'.out]; exact hlt
      have R := rows3 hs'.out hH'.out (fun p hp => by simp [hp]) hlen'.out
      obtain ⟨A, m, c, hvk⟩ := hv'.out _ (List.getElem_mem hkr)
      have o := hok'.out _ (List.getElem_mem hkr)
      have c0 := R.c0 k hkr
      have c1 := R.c1 k hkr
      have c2 := R.c2 k hkr
      rw [hvk] at c2
      obtain ⟨o1, o2, o3, o4⟩ := o
      have hki : (k : Int) < (n : Int) := by omega
      clear R hvk
      generalize hp : (rs[k]).p = p at *
      have hp' := Lib.hid hp
      clear hp
      cases hq : flowB gv p.f p.t
      · have hq' := Lib.hid hq
        clear hq
        go_wp2_with (go_at_call 26; refine (flow1 gv A m c bx hH'.out o1 o2 o3 o4).mono ?_; rw [hq'.out]; rintro e w1 ⟨rfl, h1⟩)
        go_roundw
        case rel => exact ⟨k + 1, by omega, by go_num, h1, fun j hj hjk => by
          rcases Nat.lt_or_ge j k with h2 | h2
          · exact hall'.out j hj h2
          · have : j = k := by omega
            subst this
            rw [hp'.out]; exact hq'.out⟩
        case measure => simp [intOf]; omega
      · have hq' := Lib.hid hq
        clear hq
        go_wp2_with (go_at_call 26; refine (flow1 gv A m c bx hH'.out o1 o2 o3 o4).mono ?_; rw [hq'.out]; rintro e w1 ⟨rfl, h1⟩)
        go_ret
        exact ⟨h1, Or.inl ⟨k, hkr, rfl, by rw [hp'.out]; exact hq'.out, fun j hj => hall'.out j (by omega) hj⟩⟩
    · have hkn : k = n := by omega
      subst hkn
      go_wp2
      go_ret
      exact ⟨hH'.out, Or.inr ⟨rfl, fun r hr => by
        obtain ⟨j, hj, rfl⟩ := List.getElem_of_mem hr
        exact hall'.out j hj (by rw [← hlen'.out]; exact hj)⟩⟩
end Go.Proofs.Ytggphdbifjoflaa
