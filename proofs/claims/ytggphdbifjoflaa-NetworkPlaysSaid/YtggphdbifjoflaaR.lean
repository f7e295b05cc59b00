import Derived.Test.YtggphdbifjoflaaO
namespace Go.Proofs.Ytggphdbifjoflaa
open Go.RowKit
variable {W w : World} {L : List Seg} {v : Value} {l : List UInt8} {b : Nat} {N x y : Int} {ps : List Pcl}

theorem filter_split (q : Pcl → Bool) (rs : List PR) : ((rs.filter fun r => q r.p) ++ keep q rs).Perm rs := by
  unfold keep; exact List.filter_append_perm _ _

theorem H.dataSplit {rs : List PR} (q : Pcl → Bool) (h : H W w (datas rs :: L)) : H W w (datas (keep q rs) :: datas (rs.filter fun r => q r.p) :: L) := by
  have h1 := datas_perm (filter_split q rs).symm
  refine h.perm ?_
  simp only [List.flatten_cons, ← List.append_assoc]
  refine List.Perm.append_right _ (h1.trans ?_)
  unfold datas
  rw [List.flatMap_append]
  exact List.perm_append_comm

/-- What is taken out of a network: the parcels of rows rq, in a slice of the call's own, their bytes in datas rq. -/
def PFlow (W : World) (L : List Seg) (b : Nat) (N : Int) (q : Pcl → Bool) (ps : List Pcl) (e : Ending) (w' : World) : Prop :=
  ∃ A c S rq, e = .returned (.slice A rq.length c) ∧ Net W w' (S :: datas rq :: L) b N (ps.filter fun p => !q p) ∧
    OwnS 30 3 (.slice A rq.length c) rq.length (rq.flatMap PR.cells) S ∧ rq.map PR.p = ps.filter q ∧ ∀ r ∈ rq, r.ok

theorem pfilter_net {C : Seg} {q : Pcl → Bool} {rs : List PR} {e : Ending} {w' : World} (hmap : rs.map PR.p = ps) (hle : rs.length ≤ 4096) (hok : ∀ r ∈ rs, r.ok) (h : PFilter W L C b N q rs e w') : PFlow W L b N q ps e w' := by
  obtain ⟨A, m, c, S, A', c', SP, rfl, h1, h2, rfl, h3⟩ := h
  refine ⟨A, c, S, rs.filter fun r => q r.p, rfl, ⟨.slice A' (keep q rs).length c', SP, keep q rs, ?_, ?_⟩, h3, ?_, fun r hr => hok r (List.mem_filter.1 hr).1⟩
  · have h4 : H W w' (datas rs :: hdr b N (.slice A' (keep q rs).length c') :: SP :: S :: L) := h1.drop.pick 2 rfl
    exact (((h4.dataSplit q).pick 4 rfl).pick 2 rfl |> fun _ => (show H W w' (hdr b N (.slice A' (keep q rs).length c') :: SP :: datas (keep q rs) :: S :: datas (rs.filter fun r => q r.p) :: L) from
      ((((h4.dataSplit q).pick 4 rfl).pick 1 rfl).pick 4 rfl).pick 4 rfl))
  · refine ⟨h2, fun r hr => hok r (List.mem_filter.1 hr).1, ?_, Nat.le_trans (keep_le q rs) hle⟩
    rw [← hmap]; unfold keep
    rw [List.filter_map]; rfl
  · rw [← hmap, List.filter_map]; rfl

set_option maxHeartbeats 400000 in
theorem flow_nil (g : Int) (w : World) (hH : H W w L) : Calls Try.prog 20 #[.pointer none, .int .i64 g] w fun e w' => e = .returned (.slice none 0 0) ∧ H W w' L := by
  have h' := Lib.hid (hH.alloc (.cells #[.int .i64 g] 3))
  clear hH
  go_enter Try.func20, Try.ntmps20
  go_wp2_with (go_at_call 25; refine (filter_nil _ _).mono ?_; rintro e w1 ⟨rfl, rfl⟩)
  go_ret
  exact ⟨rfl, h'.out.drop⟩

set_option maxHeartbeats 400000 in
theorem flow_net {pv : Value} {SP : Seg} {rs : List PR} (g : Int) (h : H W w (hdr b N pv :: SP :: datas rs :: L)) (hn : NetOk ps pv SP rs) (hok : ∀ p ∈ ps, okP p) :
    Calls Try.prog 20 #[.pointer (some ⟨b, 0, none⟩), .int .i64 g] w (PFlow W L b N (fun p => flowB g p.f p.t) ps) := by
  obtain ⟨A, cap, rfl⟩ := hn.row.form
  have h0 : H W (w.alloc (.cells #[.int .i64 g] 3)) (clo w.heap.size g :: SP :: hdr b N (.slice A rs.length cap) :: datas rs :: L) := ((h.alloc (.cells #[.int .i64 g] 3)).pick 2 rfl).swap
  have h' := Lib.hid h0
  have hn' := Lib.hid hn
  have hok' := Lib.hid (show ∀ r ∈ rs, okP r.p from fun r hr => hok _ (by rw [← hn.map]; exact List.mem_map_of_mem hr))
  have hv' := Lib.hid (show ∀ r ∈ rs, ∃ A m c, r.v = .slice A m c from fun r hr => by obtain ⟨A, c, hv⟩ := (hn.each r hr).1.form; exact ⟨A, _, c, hv⟩)
  have hm := hn.le
  clear h hn hok h0
  go_enter Try.func20, Try.ntmps20
  go_wp2_with (go_at_call 25; refine (filter_flow h'.out hn'.out.row rfl hm hok'.out hv'.out).mono ?_; intro e w1 hp; obtain ⟨A2, c2, S2, rq, rfl, r1, r2, r3, r4⟩ := pfilter_net hn'.out.map hm hn'.out.each hp)
  go_ret
  exact ⟨A2, c2, S2, rq, rfl, r1, r2, r3, r4⟩
end Go.Proofs.Ytggphdbifjoflaa
