import Derived.Test.YtggphdbifjoflaaQ
import Derived.Test.YtggphdbifjoflaaR
import Derived.Test.YtggphdbifjoflaaF
namespace Go.Proofs.Ytggphdbifjoflaa
open Go.RowKit
variable {W w : World} {L : List Seg} {v : Value} {l : List UInt8} {b : Nat} {N x y : Int} {ps : List Pcl}

theorem Net.drop {A : Seg} (h : Net W w (A :: L) b N ps) : Net W w L b N ps := by
  obtain ⟨pv, SP, rs, h1, h2⟩ := h
  exact ⟨pv, SP, rs, (((h1.pick 3 rfl).drop)), h2⟩

def PDisc (W : World) (L : List Seg) (b : Nat) (N : Int) (q : Pcl → Bool) (ps : List Pcl) (e : Ending) (w' : World) : Prop :=
  e = .returned (.int .i64 (ps.filter q).length) ∧ Net W w' L b N (ps.filter fun p => !q p)

set_option maxHeartbeats 400000 in
theorem disc_nil (g : Int) (w : World) (hH : H W w L) : Calls Try.prog 22 #[.pointer none, .int .i64 g] w fun e w' => e = .returned (.int .i64 0) ∧ H W w' L := by
  have h' := Lib.hid (hH.alloc (.cells #[.int .i64 g] 3))
  clear hH
  go_enter Try.func22, Try.ntmps22
  go_wp2_with (go_at_call 25; refine (filter_nil _ _).mono ?_; rintro e w1 ⟨rfl, rfl⟩)
  go_ret
  exact ⟨rfl, h'.out.drop⟩

set_option maxHeartbeats 400000 in
theorem disc_net {pv : Value} {SP : Seg} {rs : List PR} (g : Int) (h : H W w (hdr b N pv :: SP :: datas rs :: L)) (hn : NetOk ps pv SP rs) (hok : ∀ p ∈ ps, okP p) :
    Calls Try.prog 22 #[.pointer (some ⟨b, 0, none⟩), .int .i64 g] w (PDisc W L b N (fun p => discB g p.f p.t) ps) := by
  obtain ⟨A, cap, rfl⟩ := hn.row.form
  have h0 : H W (w.alloc (.cells #[.int .i64 g] 3)) (clo w.heap.size g :: SP :: hdr b N (.slice A rs.length cap) :: datas rs :: L) := ((h.alloc (.cells #[.int .i64 g] 3)).pick 2 rfl).swap
  have h' := Lib.hid h0
  have hn' := Lib.hid hn
  have hok' := Lib.hid (show ∀ r ∈ rs, okP r.p from fun r hr => hok _ (by rw [← hn.map]; exact List.mem_map_of_mem hr))
  have hv' := Lib.hid (show ∀ r ∈ rs, ∃ A m c, r.v = .slice A m c from fun r hr => by obtain ⟨A, c, hv⟩ := (hn.each r hr).1.form; exact ⟨A, _, c, hv⟩)
  have hm := hn.le
  clear h hn hok h0
  go_enter Try.func22, Try.ntmps22
  go_wp2_with (go_at_call 25; refine (filter_disc h'.out hn'.out.row rfl hm hok'.out hv'.out).mono ?_; intro e w1 hp; obtain ⟨A2, c2, S2, rq, rfl, r1, r2, r3, r4⟩ := pfilter_net hn'.out.map hm hn'.out.each hp; have r3' := Lib.hid r3; clear r3)
  go_ret
  have e : rq.length = (ps.filter fun p => discB g p.f p.t).length := by rw [← r3'.out, List.length_map]
  exact ⟨by rw [← e]; rfl, r1.drop.drop⟩

def PTrue (W : World) (L : List Seg) (e : Ending) (w' : World) : Prop := e = .returned (.bool true) ∧ H W w' L

theorem Net.h (h : Net W w L b N ps) : H W w L := by
  obtain ⟨pv, SP, rs, h1, h2⟩ := h
  exact h1.drop.drop.drop

/-- The network as its parts. -/
theorem Net.open (h : Net W w L b N ps) : ∃ A c SP rs, H W w (hdr b N (.slice A ps.length c) :: SP :: datas rs :: L) ∧ NetOk ps (.slice A ps.length c) SP rs ∧ rs.length = ps.length := by
  obtain ⟨pv, SP, rs, h1, h2⟩ := h
  obtain ⟨A, c, rfl⟩ := h2.row.form
  have e : rs.length = ps.length := by rw [← h2.map, List.length_map]
  rw [e] at h1 h2
  exact ⟨A, c, SP, rs, h1, h2, e⟩

theorem send_net (h : Net W w L b N ps) (hr : RL L v l) (hx0 : 0 ≤ x) (hx1 : x < N) (hy0 : 0 ≤ y) (hy1 : y < N) (hl : ps.length < 4096) :
    Calls Try.prog 8 #[.pointer (some ⟨b, 0, none⟩), .agg #[.int .i64 x, .int .i64 y, v]] w (PErr 0 fun w' => Net W w' L b N (ps ++ [⟨x, y, l⟩])) := send_ok h hr hx0 hx1 hy0 hy1 hl

theorem flow_of (h : Net W w L b N ps) (g : Int) (hok : ∀ p ∈ ps, okP p) : Calls Try.prog 20 #[.pointer (some ⟨b, 0, none⟩), .int .i64 g] w (PFlow W L b N (fun p => flowB g p.f p.t) ps) := by
  obtain ⟨A, c, SP, rs, h1, h2, _⟩ := h.open
  exact flow_net g h1 h2 hok

theorem len_net (h : Net W w L b N ps) : Calls Try.prog 13 #[.pointer (some ⟨b, 0, none⟩)] w (PInt ps.length fun w' => w = w') := by
  obtain ⟨A, c, SP, rs, h1, h2, _⟩ := h.open
  exact len_cells A ps.length c (h1.cellAt 0 0 1 rfl rfl rfl)

set_option maxHeartbeats 1600000 in
theorem awake_true (h : H W w L) : Calls Try.prog 6 #[] w (PTrue W L) := by
  have h' := Lib.hid h
  clear h
  have p1 := Lib.hid (show ([] : List Pcl).length < 4096 by decide)
  have p1b := Lib.hid (show (([] : List Pcl) ++ [(⟨0, 1, []⟩ : Pcl)]).length < 4096 by decide)
  have p2 := Lib.hid (show ∀ p ∈ ([] : List Pcl) ++ [(⟨0, 1, []⟩ : Pcl)] ++ [(⟨0, 2, []⟩ : Pcl)], okP p by
    intro p hp; simp at hp; rcases hp with rfl | rfl <;> simp [okP])
  have q1 := Lib.hid (show ((([] : List Pcl) ++ [(⟨0, 1, []⟩ : Pcl)] ++ [(⟨0, 2, []⟩ : Pcl)]).filter (fun p => flowB 3 p.f p.t)).length = 1 by decide +kernel)
  have q2 := Lib.hid (show ((([] : List Pcl) ++ [(⟨0, 1, []⟩ : Pcl)] ++ [(⟨0, 2, []⟩ : Pcl)]).filter (fun p => !flowB 3 p.f p.t)).length = 1 by decide +kernel)
  have r0 := Lib.hid (RL.nil L)
  go_enter Try.func6, Try.ntmps6
  go_wp2_with (go_at_call 7; refine (new_any 3 h'.out).mono ?_; rintro e w1 ⟨b, rfl, h1⟩; have h1' := Lib.hid h1; clear h1)
  refine (send_net h1'.out r0.out (by decide) (by decide) (by decide) (by decide) p1.out).mono ?_
  rintro e w2 ⟨rfl, h2⟩
  have h2' := Lib.hid h2
  clear h2
  go_wp2_with fail
  refine (send_net h2'.out r0.out (by decide) (by decide) (by decide) (by decide) p1b.out).mono ?_
  rintro e w3 ⟨rfl, h3⟩
  have h3' := Lib.hid h3
  clear h3
  go_wp2_with fail
  refine (flow_of h3'.out 3 p2.out).mono ?_
  rintro e w4 ⟨A, c, S, rq, rfl, h4, h5, h6, h7⟩
  have hrq : rq.length = 1 := by rw [← q1.out, ← h6, List.length_map]
  rw [hrq]
  have h4' := Lib.hid h4.drop.drop
  clear h4 h5 h6 h7 hrq
  go_wp2_with fail
  refine (len_net h4'.out).mono ?_
  rw [q2.out]
  rintro e w5 ⟨rfl, rfl⟩
  go_wp2_with fail
  go_ret
  exact ⟨rfl, h4'.out.h⟩
end Go.Proofs.Ytggphdbifjoflaa
