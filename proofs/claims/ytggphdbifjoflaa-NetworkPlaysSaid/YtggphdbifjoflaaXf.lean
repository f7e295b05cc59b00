import Derived.Test.YtggphdbifjoflaaXe
import Derived.Test.YtggphdbifjoflaaU
namespace Go.Proofs.Ytggphdbifjoflaa
open Go.RowKit
variable {W w : World} {L : List Seg} {v : Value} {l : List UInt8} {b : Nat} {N x y : Int} {ps : List Pcl}

/-! Corrupt -/
def corC (ps : List Pcl) (i j : Int) (c : UInt8) : Int := match atI ps i with | none => 6 | some p => if c.toNat = 0 ∨ j < 0 ∨ (p.d.length : Int) ≤ j then 1 else 0
def corL (ps : List Pcl) (i j : Int) (c : UInt8) : List Pcl := match atI ps i with | none => ps | some p => if c.toNat = 0 ∨ j < 0 ∨ (p.d.length : Int) ≤ j then ps else ps.set i.toNat (p.cor j.toNat c)

theorem cor_all (i j : Int) (c : UInt8) (h : Net W w L b N ps) :
    Calls Try.prog 11 #[.pointer (some ⟨b, 0, none⟩), .int .i64 i, .int .i64 j, .int .u8 c.toNat] w (PErr (corC ps i j c) fun w' => Net W w' L b N (corL ps i j c)) := by
  obtain ⟨A, cp, SP, rs, h1, hn, hlen⟩ := h.open
  have hq : w.cell? ⟨b, 1, none⟩ = some (.slice A ps.length cp) := h1.cellAt 0 0 1 rfl rfl rfl
  have hle := hn.le
  unfold corC corL
  cases hi : atI ps i with
  | none =>
    refine (cor_out i j c.toNat A ps.length cp hq (atI_none hi)).mono ?_
    rintro e w' ⟨rfl, rfl⟩
    exact ⟨rfl, _, SP, rs, h1, hn⟩
  | some p =>
    obtain ⟨k, rfl, hk, hkl⟩ := atI_some hi
    have hkr : k < rs.length := by omega
    have hp : (rs[k]).p = p := by
      have := hk; rw [← hn.map, List.getElem?_map, List.getElem?_eq_getElem hkr] at this; simpa using this
    simp only
    by_cases hj : c.toNat = 0 ∨ j < 0 ∨ (p.d.length : Int) ≤ j
    · rw [if_pos hj, if_pos hj]
      obtain ⟨g, cap, hv, hle2, c0, c1, c2⟩ := hn.cells h1 (fun p hp => by simp [hp]) k hkr
      obtain ⟨A2, cc, hv2⟩ := (hn.each _ (List.getElem_mem hkr)).1.form
      rw [hv2, hp] at c2
      rw [show Value.slice A ps.length cp = .slice (some ⟨g, 0, none⟩) rs.length cap from hv] at hq
      refine (cor_arg k j c A2 g rs.length cap p.d.length cc hq hkr hle c2 hj).mono ?_
      rintro e w' ⟨rfl, rfl⟩
      exact ⟨rfl, _, SP, rs, h1, hn⟩
    · rw [if_neg hj, if_neg hj]
      have hjn : j.toNat < (rs[k]).p.d.length := by rw [hp]; omega
      have := cor_ok h1 hn k j.toNat hkr hjn c (by omega)
      rw [hp, show ((j.toNat : Nat) : Int) = j by omega] at this
      exact this

theorem flat_set {rs : List PR} {r : PR} {k : Nat} (hk : k < rs.length) (hf : r.p.f = (rs[k]).p.f) (ht : r.p.t = (rs[k]).p.t) : (rs.set k r).flatMap PR.cells = (rs.flatMap PR.cells).set (k * 3 + 2) r.v := by
  induction rs generalizing k with
  | nil => simp at hk
  | cons a rs ih =>
    cases k with
    | zero =>
      simp only [List.getElem_cons_zero] at hf ht
      simp [PR.cells, hf, ht]
    | succ k =>
      simp only [List.getElem_cons_succ] at hf ht
      have hk' : k < rs.length := by simpa using hk
      rw [List.set_cons_succ, List.flatMap_cons, List.flatMap_cons, ih hk' hf ht, List.set_append_right _ _ (by simp [PR.cells]; omega)]
      have : (PR.cells a).length = 3 := rfl
      rw [this, show (k + 1) * 3 + 2 - 3 = k * 3 + 2 by omega]

theorem OwnS.setCell {E : TypeId} {size g n cap : Nat} {cur : Array Value} {xs : List Value} (h : OwnS E size (.slice (Option.some ⟨g, 0, none⟩) n cap) n xs [(g, .cells cur E (0, 0))]) (i : Nat) (u : Value) :
    OwnS E size (.slice (Option.some ⟨g, 0, none⟩) n cap) n (xs.set i u) [(g, .cells (cur.setIfInBounds i u) E (0, 0))] := by
  rcases h.2 with ⟨hv, _⟩ | ⟨g', cap', cur', hv, hS, h3, h4, h5, h6⟩
  · simp at hv
  · obtain ⟨rfl, rfl⟩ := by simpa using hv
    obtain rfl := by simpa using hS
    exact ⟨by rw [List.length_set]; exact h.1, Or.inr ⟨g, cap, cur.setIfInBounds i u, rfl, rfl, h3, h4, by simpa using h5, by rw [Array.toList_setIfInBounds, List.take_set, h6]⟩⟩

theorem OwnS.some' {E : TypeId} {size n : Nat} {v : Value} {xs : List Value} {S : Seg} (h : OwnS E size v n xs S) (hn : 0 < n) :
    ∃ g cap cur, v = .slice (Option.some ⟨g, 0, none⟩) n cap ∧ S = [(g, .cells cur E (0, 0))] ∧ cur.size = cap * size ∧ n ≤ cap ∧ cap ≤ maxLen ∧ cur.toList.take (n * size) = xs := by
  rcases h.2 with ⟨_, h0, _⟩ | ⟨g, cap, cur, h1, h2, h3, h4, h5, h6⟩
  · omega
  · exact ⟨g, cap, cur, h1, h2, h5, h3, h4, h6⟩

set_option maxHeartbeats 800000 in
theorem rcor_out (i j c : Int) (A : Option Addr) (n cap : Nat) (hq : w.cell? ⟨b, 1, none⟩ = some (.slice A n cap)) (hi : i < 0 ∨ (n : Int) ≤ i) :
    Calls Try.prog 19 #[.pointer (some ⟨b, 0, none⟩), .int .i64 i, .int .i64 j, .int .u8 c] w (PErr 6 fun w' => w = w') := by
  by_cases c0 : i < 0
  · have e1 : decide (i < 0) = true := by simpa using c0
    clear hi
    go_enter Try.func19, Try.ntmps19
    go_wp2
    go_ret
    exact ⟨rfl, rfl⟩
  · have e1 : decide (i < 0) = false := by simpa using c0
    have e2 : decide ((n : Int) ≤ i) = true := by simp; omega
    clear hi
    go_enter Try.func19, Try.ntmps19
    go_wp2
    go_ret
    exact ⟨rfl, rfl⟩

set_option maxHeartbeats 1600000 in
theorem rcor_arg (k : Nat) (j : Int) (c : UInt8) (A : Option Addr) (g n cap m cap2 : Nat) (hq : w.cell? ⟨b, 1, none⟩ = some (.slice (some ⟨g, 0, none⟩) n cap)) (hk : k < n) (_hm : n ≤ 4096)
    (c2 : w.cell? ⟨g, k * 3 + 2, none⟩ = some (.slice A m cap2)) (hj : c.toNat = 0 ∨ j < 0 ∨ (m : Int) ≤ j) :
    Calls Try.prog 19 #[.pointer (some ⟨b, 0, none⟩), .int .i64 k, .int .i64 j, .int .u8 c.toNat] w (PErr 1 fun w' => w = w') := by
  have e1 : decide ((k : Int) < 0) = false := by simp
  have e2 : decide ((n : Int) ≤ (k : Int)) = false := by simp; omega
  have hki : (k : Int) < (n : Int) := by omega
  by_cases c1 : j < 0
  · have e4 : decide (j < 0) = true := by simpa using c1
    clear hj
    go_enter Try.func19, Try.ntmps19
    go_wp2
    go_ret
    exact ⟨rfl, rfl⟩
  · have e4 : decide (j < 0) = false := by simpa using c1
    by_cases c3 : (m : Int) ≤ j
    · have e5 : decide ((m : Int) ≤ j) = true := by simpa using c3
      clear hj
      go_enter Try.func19, Try.ntmps19
      go_wp2
      go_ret
      exact ⟨rfl, rfl⟩
    · have e5 : decide ((m : Int) ≤ j) = false := by simpa using c3
      have e3 : ((c.toNat : Int) == 0) = true := by simp; omega
      clear hj
      go_enter Try.func19, Try.ntmps19
      go_wp2
      go_ret
      exact ⟨rfl, rfl⟩

set_option maxHeartbeats 1600000 in
theorem rcor_in (k j : Nat) (c : UInt8) (hc : c.toNat ≠ 0) {g cap : Nat} {cur0 : Array Value} {rs : List PR} (h : H W w (rhdr b N (.slice (some ⟨g, 0, none⟩) rs.length cap) :: [(g, .cells cur0 43 (0, 0))] :: datas rs :: L))
    (hn : RNetOk ps (.slice (some ⟨g, 0, none⟩) rs.length cap) [(g, .cells cur0 43 (0, 0))] rs) (hk : k < rs.length) (p : Pcl) (hp : (rs[k]).p = p) (hj : j < p.d.length) :
    Calls Try.prog 19 #[.pointer (some ⟨b, 0, none⟩), .int .i64 k, .int .i64 j, .int .u8 c.toNat] w (PErr 0 fun w' => RNet W w' L b N (ps.set k (p.cor j c))) := by
  obtain ⟨g', cap', hg', hle, c0, c1, c2⟩ := hn.cells h (fun p hp => by simp only [List.flatten_cons, List.mem_append]; exact .inr (.inl hp)) k hk
  obtain ⟨rfl, rfl⟩ : g' = g ∧ cap' = cap := by simp at hg'; exact ⟨hg'.1.symm, hg'.2.symm⟩
  obtain ⟨A, cc, hv⟩ := (hn.each _ (List.getElem_mem hk)).1.form
  have hr := hn.rl k hk L
  have hm := hn.le
  have hdl := (hn.each _ (List.getElem_mem hk)).2
  rw [hp] at hv hr hdl
  rw [hv] at c2 hr
  have hq : w.cell? ⟨b, 1, none⟩ = some (.slice (some ⟨g', 0, none⟩) rs.length cap') := h.cellAt 0 0 1 rfl rfl rfl
  have h' := Lib.hid h
  have hn' := Lib.hid hn
  have hp' := Lib.hid hp
  have hr' := Lib.hid (((hr.2.cons [(g', .cells cur0 43 (0, 0))]).cons (rhdr b N (.slice (some ⟨g', 0, none⟩) rs.length cap'))).cons [])
  have hN := Lib.hid (OwnS.nil 5 1)
  have e1 : decide ((k : Int) < 0) = false := by simp
  have e2 : decide ((rs.length : Int) ≤ (k : Int)) = false := by simp; omega
  have hki : (k : Int) < (rs.length : Int) := by omega
  have e3 : ((c.toNat : Int) == 0) = false := by simp; omega
  have e4 : decide ((j : Int) < 0) = false := by simp
  have e5 : decide ((p.d.length : Int) ≤ j) = false := by simp; omega
  have hji : (j : Int) < (p.d.length : Int) := by omega
  obtain ⟨d0, hd0⟩ : ∃ d, p.d.getD j 0 = d := ⟨_, rfl⟩
  have hd0' := Lib.hid hd0
  clear hd0
  have hx := bits_xor_u8 d0 c
  have b1 : (0 + p.d.length) * 1 ≤ 140737488355328 := by omega
  have b2 : 0 + p.d.length ≤ 140737488355328 := by omega
  have hone := u8s_one p.d
  have hgb : g' ≠ b := (h.pick 1 rfl).neq 0 0 0 rfl rfl rfl
  clear hc h hn hr hv hp hg'
  go_enter Try.func19, Try.ntmps19
  go_wp2_with (at_builtin; refine wpl_append rfl (.const (.slice none 0 0)) (.tmp 47) rfl et22 rfl rfl h'.out.addNil hN.out hr'.out hone b1 b2 ?_; intro A1 d1 w1 S1 h1 h2
               obtain ⟨g1, cap1, cur, hv1, rfl, hz1, hle1, hmx1, ht1⟩ := h2.some' (by omega)
               obtain ⟨rfl, rfl⟩ : A1 = some ⟨g1, 0, none⟩ ∧ d1 = cap1 := by simpa using hv1
               simp only [Nat.zero_add, List.nil_append] at h2 ht1 hle1 ⊢
               have q1 : w1.cell? ⟨b, 1, none⟩ = some (.slice (some ⟨g', 0, none⟩) rs.length cap') := h1.cellAt 1 0 1 rfl rfl rfl
               have r1 : w1.cell? ⟨g1, j, none⟩ = some (.int .u8 (d0.toNat : Int)) := by rw [← hd0'.out]; exact h1.cellAt 0 0 j rfl rfl (own_byte rfl ht1 j hj)
               have r2 : w1.frozen? ⟨g1, j, none⟩ = false := h1.freeAt 0 0 j rfl rfl
               have r3 : w1.frozen? ⟨g', k * 3 + 2, none⟩ = false := h1.freeAt 2 0 _ rfl rfl
               obtain ⟨g2, cap2, hg2, _, _, _, r4⟩ := hn'.out.cells h1 (fun p hp => by simp only [List.flatten_cons, List.mem_append]; exact .inr (.inr (.inl hp))) k hk
               obtain rfl : g' = g2 := by simp at hg2; exact hg2.1
               have n1 : g1 ≠ b := h1.neq 0 0 0 rfl rfl rfl
               have n2 : g1 ≠ g' := h1.neq 0 1 0 rfl rfl rfl
               have h1' := Lib.hid h1
               have ht1' := Lib.hid ht1
               have hz1' := Lib.hid hz1
               clear h1 h2 hv1 ht1 hz1 hg2)
  have hA := h1'.out.setCell j (.int .u8 ((d0 ^^^ c).toNat : Int))
  have hB := (hA.pick 2 rfl).setCell (k * 3 + 2) (.slice (some ⟨g1, 0, none⟩) p.d.length d1)
  have hC := ((hB.pick 3 rfl).dataOut k hk).drop
  have hD := H.dataIn (r := ⟨p.cor j c, .slice (some ⟨g1, 0, none⟩) p.d.length d1, [(g1, .cells (cur.setIfInBounds j (.int .u8 ((d0 ^^^ c).toNat : Int))) 5 (0, 0))]⟩) k hk (hC.pick 2 rfl)
  go_ret
  refine ⟨rfl, _, _, _, (hD.pick 1 rfl).pick 2 rfl, ?_⟩
  have hnn := hn'.out
  have hpp := hp'.out
  refine ⟨?_, ?_, ?_, by rw [List.length_set]; exact hm⟩
  · rw [flat_set hk (by rw [hpp]; rfl) (by rw [hpp]; rfl), List.length_set]
    exact hnn.row.setCell _ _
  · intro r hr
    rcases List.mem_or_eq_of_mem_set hr with hr | rfl
    · exact hnn.each r hr
    · have hlen2 : (p.cor j c).d.length = p.d.length := by simp [Pcl.cor]
      have hu : u8s (p.cor j c).d = (u8s p.d).set j (.int .u8 ((d0 ^^^ c).toNat : Int)) := by
        unfold Pcl.cor u8s
        rw [hd0'.out, List.map_set]
      refine ⟨⟨by simp [u8s_len], Or.inr ⟨g1, d1, cur.setIfInBounds j (.int .u8 ((d0 ^^^ c).toNat : Int)), ?_, rfl, ?_, hmx1, by simpa using hz1'.out, ?_⟩⟩, ?_⟩
      · rw [hlen2]
      · rw [hlen2]; exact hle1
      · rw [hlen2, hu, Nat.mul_one, ← ht1'.out, Array.toList_setIfInBounds, List.take_set, Nat.mul_one]
      · show (p.cor j c).d.length ≤ _
        rw [hlen2]; exact hdl
  · rw [List.map_set, hnn.map]

theorem rcor_all (i j : Int) (c : UInt8) (h : RNet W w L b N ps) :
    Calls Try.prog 19 #[.pointer (some ⟨b, 0, none⟩), .int .i64 i, .int .i64 j, .int .u8 c.toNat] w (PErr (corC ps i j c) fun w' => RNet W w' L b N (corL ps i j c)) := by
  obtain ⟨A, cp, SP, rs, h1, hn, hlen⟩ := h.open
  have hq : w.cell? ⟨b, 1, none⟩ = some (.slice A ps.length cp) := h1.cellAt 0 0 1 rfl rfl rfl
  have hle := hn.le
  unfold corC corL
  cases hi : atI ps i with
  | none =>
    refine (rcor_out i j c.toNat A ps.length cp hq (atI_none hi)).mono ?_
    rintro e w' ⟨rfl, rfl⟩
    exact ⟨rfl, _, SP, rs, h1, hn⟩
  | some p =>
    obtain ⟨k, rfl, hk, hkl⟩ := atI_some hi
    have hkr : k < rs.length := by omega
    have hp : (rs[k]).p = p := by
      have := hk; rw [← hn.map, List.getElem?_map, List.getElem?_eq_getElem hkr] at this; simpa using this
    simp only
    by_cases hj : c.toNat = 0 ∨ j < 0 ∨ (p.d.length : Int) ≤ j
    · rw [if_pos hj, if_pos hj]
      obtain ⟨g, cap, hv, hle2, c0, c1, c2⟩ := hn.cells h1 (fun p hp => by simp [hp]) k hkr
      obtain ⟨A2, cc, hv2⟩ := (hn.each _ (List.getElem_mem hkr)).1.form
      rw [hv2, hp] at c2
      rw [show Value.slice A ps.length cp = .slice (some ⟨g, 0, none⟩) rs.length cap from hv] at hq
      refine (rcor_arg k j c A2 g rs.length cap p.d.length cc hq hkr hle c2 hj).mono ?_
      rintro e w' ⟨rfl, rfl⟩
      exact ⟨rfl, _, SP, rs, h1, hn⟩
    · rw [if_neg hj, if_neg hj]
      rw [← hlen] at h1 hn
      rcases hn.row.2 with ⟨_, h0, _⟩ | ⟨g, cap, cur, hv, rfl, _⟩
      · omega
      · obtain ⟨rfl, rfl⟩ : A = some ⟨g, 0, none⟩ ∧ cp = cap := by simpa using hv
        have := rcor_in k j.toNat c (by omega) h1 hn hkr p hp (by omega)
        rw [show ((j.toNat : Nat) : Int) = j by omega] at this
        exact this
end Go.Proofs.Ytggphdbifjoflaa
