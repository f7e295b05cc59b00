import Derived.Test.YtggphdbifjoflaaE
namespace Go.Proofs.Ytggphdbifjoflaa
open Go.RowKit
variable {W w : World} {L : List Seg} {v : Value} {l : List UInt8} {b : Nat} {N x y : Int} {ps : List Pcl}

theorem datas_perm {rs rs' : List PR} (h : rs.Perm rs') : (datas rs).Perm (datas rs') := by
  unfold datas List.flatMap
  exact (h.map _).flatten

theorem H.dataOut {rs : List PR} (h : H W w (datas rs :: L)) (k : Nat) (hk : k < rs.length) : H W w ((rs[k]).S :: datas (rs.eraseIdx k) :: L) := by
  refine h.perm ?_
  have h1 := datas_perm (perm_pick rs k (List.getElem?_eq_getElem hk))
  simp only [List.flatten_cons, ← List.append_assoc]
  exact (h1.trans (by simp [datas])).append_right _

theorem eraseIdx_set' {α : Type} : ∀ (l : List α) (k : Nat) (x : α), (l.set k x).eraseIdx k = l.eraseIdx k
  | [], _, _ => rfl
  | _ :: _, 0, _ => rfl
  | a :: l, k + 1, x => by simp only [List.set_cons_succ, List.eraseIdx_cons_succ, eraseIdx_set' l k x]

theorem H.dataIn {rs : List PR} {r : PR} (k : Nat) (hk : k < rs.length) (h : H W w (r.S :: datas (rs.eraseIdx k) :: L)) : H W w (datas (rs.set k r) :: L) := by
  refine h.perm ?_
  have h1 := datas_perm (perm_pick (rs.set k r) k (s := r) (by simp [hk]))
  rw [eraseIdx_set'] at h1
  simp only [List.flatten_cons, ← List.append_assoc]
  exact (List.Perm.trans (by simp [datas]) h1.symm).append_right _

theorem bits_xor_u8 (a c : UInt8) : bits .xor .u8 (a.toNat : Int) (c.toNat : Int) = ((a ^^^ c).toNat : Int) := by
  have h : ∀ x : UInt8, BitVec.ofInt IntKind.u8.bits (x.toNat : Int) = x.toBitVec := by
    intro x; apply BitVec.eq_of_toNat_eq; simp [IntKind.bits]
  unfold bits
  simp only [h]
  show IntKind.u8.wrap (((a ^^^ c).toNat : Nat) : Int) = _
  have hlt := (a ^^^ c).toNat_lt
  generalize (a ^^^ c).toNat = x at hlt ⊢
  simp [IntKind.wrap, IntKind.signed, IntKind.bits]
  omega

theorem flatMap_set_same {rs : List PR} {r : PR} {k : Nat} (hk : k < rs.length) (h : r.cells = (rs[k]).cells) : (rs.set k r).flatMap PR.cells = rs.flatMap PR.cells := by
  unfold List.flatMap
  rw [List.map_set, h]
  congr 1
  have : (rs[k]).cells = (rs.map PR.cells)[k]'(by simpa using hk) := by simp
  rw [this, List.set_getElem_self]

set_option maxHeartbeats 400000 in
theorem cor_nil (i j c : Int) (w : World) : Calls Try.prog 11 #[.pointer none, .int .i64 i, .int .i64 j, .int .u8 c] w (PErr 1 fun w' => w = w') := by
  go_enter Try.func11, Try.ntmps11
  go_wp2
  go_ret
  exact ⟨rfl, rfl⟩

set_option maxHeartbeats 800000 in
theorem cor_out (i j c : Int) (A : Option Addr) (n cap : Nat) (hq : w.cell? ⟨b, 1, none⟩ = some (.slice A n cap)) (hi : i < 0 ∨ (n : Int) ≤ i) :
    Calls Try.prog 11 #[.pointer (some ⟨b, 0, none⟩), .int .i64 i, .int .i64 j, .int .u8 c] w (PErr 6 fun w' => w = w') := by
  by_cases c0 : i < 0
  · have e1 : decide (i < 0) = true := by simpa using c0
    clear hi
    go_enter Try.func11, Try.ntmps11
    go_wp2
    go_ret
    exact ⟨rfl, rfl⟩
  · have e1 : decide (i < 0) = false := by simpa using c0
    have e2 : decide ((n : Int) ≤ i) = true := by simp; omega
    clear hi
    go_enter Try.func11, Try.ntmps11
    go_wp2
    go_ret
    exact ⟨rfl, rfl⟩

set_option maxHeartbeats 1600000 in
theorem cor_arg (k : Nat) (j : Int) (c : UInt8) (A : Option Addr) (g n cap m cap2 : Nat) (hq : w.cell? ⟨b, 1, none⟩ = some (.slice (some ⟨g, 0, none⟩) n cap)) (hk : k < n) (_hm : n ≤ 4096)
    (c2 : w.cell? ⟨g, k * 3 + 2, none⟩ = some (.slice A m cap2)) (hj : c.toNat = 0 ∨ j < 0 ∨ (m : Int) ≤ j) :
    Calls Try.prog 11 #[.pointer (some ⟨b, 0, none⟩), .int .i64 k, .int .i64 j, .int .u8 c.toNat] w (PErr 1 fun w' => w = w') := by
  have e1 : decide ((k : Int) < 0) = false := by simp
  have e2 : decide ((n : Int) ≤ (k : Int)) = false := by simp; omega
  have hki : (k : Int) < (n : Int) := by omega
  by_cases c0 : c.toNat = 0
  · have e3 : ((c.toNat : Int) == 0) = true := by simp [c0]
    clear hj c0
    go_enter Try.func11, Try.ntmps11
    go_wp2
    go_ret
    exact ⟨rfl, rfl⟩
  · have e3 : ((c.toNat : Int) == 0) = false := by simp; omega
    by_cases c1 : j < 0
    · have e4 : decide (j < 0) = true := by simpa using c1
      clear hj c0
      go_enter Try.func11, Try.ntmps11
      go_wp2
      go_ret
      exact ⟨rfl, rfl⟩
    · have e4 : decide (j < 0) = false := by simpa using c1
      have e5 : decide ((m : Int) ≤ j) = true := by simp; omega
      clear hj c0
      go_enter Try.func11, Try.ntmps11
      go_wp2
      go_ret
      exact ⟨rfl, rfl⟩

set_option maxHeartbeats 1600000 in
theorem cor_walk (k j : Nat) (c d : UInt8) (g g2 n cap m cap2 : Nat) (hq : w.cell? ⟨b, 1, none⟩ = some (.slice (some ⟨g, 0, none⟩) n cap)) (hk : k < n) (_hm : n ≤ 4096) (_hml : m ≤ 140737488355328)
    (c2 : w.cell? ⟨g, k * 3 + 2, none⟩ = some (.slice (some ⟨g2, 0, none⟩) m cap2)) (hc : c.toNat ≠ 0) (hj : j < m) (c3 : w.cell? ⟨g2, j, none⟩ = some (.int .u8 d.toNat)) (hf : w.frozen? ⟨g2, j, none⟩ = false) :
    Calls Try.prog 11 #[.pointer (some ⟨b, 0, none⟩), .int .i64 k, .int .i64 j, .int .u8 c.toNat] w (PErr 0 fun w' => w' = w.setCell ⟨g2, j, none⟩ (.int .u8 (d ^^^ c).toNat)) := by
  have e1 : decide ((k : Int) < 0) = false := by simp
  have e2 : decide ((n : Int) ≤ (k : Int)) = false := by simp; omega
  have hki : (k : Int) < (n : Int) := by omega
  have e3 : ((c.toNat : Int) == 0) = false := by simp; omega
  have e4 : decide ((j : Int) < 0) = false := by simp
  have e5 : decide ((m : Int) ≤ j) = false := by simp; omega
  have hji : (j : Int) < (m : Int) := by omega
  have hx := bits_xor_u8 d c
  clear hc
  go_enter Try.func11, Try.ntmps11
  go_wp2
  go_ret
  exact ⟨rfl, rfl⟩

def Pcl.cor (p : Pcl) (j : Nat) (c : UInt8) : Pcl := { p with d := p.d.set j ((p.d.getD j 0) ^^^ c) }

theorem cor_ok {pv : Value} {SP : Seg} {rs : List PR} (h : H W w (hdr b N pv :: SP :: datas rs :: L)) (hn : NetOk ps pv SP rs) (k j : Nat) (hk : k < rs.length) (hj : j < (rs[k]).p.d.length) (c : UInt8) (hc : c.toNat ≠ 0) :
    Calls Try.prog 11 #[.pointer (some ⟨b, 0, none⟩), .int .i64 k, .int .i64 j, .int .u8 c.toNat] w (PErr 0 fun w' => Net W w' L b N (ps.set k ((rs[k]).p.cor j c))) := by
  obtain ⟨g, cap, rfl, hle, c0, c1, c2⟩ := hn.cells h (fun p hp => by simp [hp]) k hk
  have hr := hn.each _ (List.getElem_mem hk)
  obtain ⟨hrow, hlen⟩ := hr
  have hd : ∃ d, (rs[k]).p.d[j]? = some d := ⟨_, List.getElem?_eq_getElem hj⟩
  obtain ⟨d, hd⟩ := hd
  rcases hrow.2 with ⟨_, h0, _⟩ | ⟨g2, cap2, cur, hv, hS, hle2, hmx, hsz, htk⟩
  · omega
  · rw [hv] at c2
    have h2 : H W w ([(g2, .cells cur 5 (0, 0))] :: datas (rs.eraseIdx k) :: hdr b N (.slice (some ⟨g, 0, none⟩) rs.length cap) :: SP :: L) := hS ▸ (h.pick 2 rfl).dataOut k hk
    have hcur : cur[j]? = some (.int .u8 d.toNat) := by
      have : (u8s (rs[k]).p.d)[j]? = some (.int .u8 d.toNat) := by simp [u8s, hd]
      rw [← htk, List.getElem?_take, if_pos (by omega)] at this
      simpa using this
    have c3 := h2.cellAt 0 0 j rfl rfl hcur
    have f3 := h2.freeAt 0 0 j rfl rfl
    refine (cor_walk k j c d g g2 rs.length cap (rs[k]).p.d.length cap2 (h.cellAt 0 0 1 rfl rfl rfl) hk hn.le hlen c2 hc hj c3 f3).mono ?_
    rintro e w' ⟨rfl, rfl⟩
    refine ⟨rfl, .slice (some ⟨g, 0, none⟩) rs.length cap, SP, rs.set k ⟨(rs[k]).p.cor j c, (rs[k]).v, [(g2, .cells (cur.setIfInBounds j (.int .u8 (d ^^^ c).toNat)) 5 (0, 0))]⟩, ?_, ?_⟩
    · have h3 := H.dataIn (r := ⟨(rs[k]).p.cor j c, (rs[k]).v, [(g2, .cells (cur.setIfInBounds j (.int .u8 (d ^^^ c).toNat)) 5 (0, 0))]⟩) k hk (h2.setCell j (.int .u8 (d ^^^ c).toNat))
      exact (h3.pick 2 rfl).pick 2 rfl
    · refine ⟨?_, ?_, ?_, by simpa using hn.le⟩
      · rw [flatMap_set_same hk (by rfl)]
        simpa using hn.row
      · intro r hr
        rcases List.mem_or_eq_of_mem_set hr with hr | rfl
        · exact hn.each r hr
        · have hlen2 : ((rs[k]).p.cor j c).d.length = (rs[k]).p.d.length := by simp [Pcl.cor]
          have hget : (rs[k]).p.d.getD j 0 = d := by simp [List.getD, hd]
          have hu : u8s ((rs[k]).p.cor j c).d = (u8s (rs[k]).p.d).set j (.int .u8 (d ^^^ c).toNat) := by
            unfold Pcl.cor u8s
            rw [hget, List.map_set]
          refine ⟨⟨by simp [u8s_len], Or.inr ⟨g2, cap2, cur.setIfInBounds j (.int .u8 (d ^^^ c).toNat), ?_, rfl, ?_, hmx, by simpa using hsz, ?_⟩⟩, ?_⟩
          · show (rs[k]).v = _
            rw [hlen2]; exact hv
          · rw [hlen2]; exact hle2
          · rw [hlen2, hu, ← htk, Array.toList_setIfInBounds, List.take_set]
          · show ((rs[k]).p.cor j c).d.length ≤ _
            rw [hlen2]; exact hlen
      · rw [List.map_set, hn.map]
end Go.Proofs.Ytggphdbifjoflaa
