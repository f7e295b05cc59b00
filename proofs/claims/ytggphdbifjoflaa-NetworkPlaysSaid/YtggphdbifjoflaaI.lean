import Derived.Test.YtggphdbifjoflaaG
namespace Go.Proofs.Ytggphdbifjoflaa
open Go.RowKit
variable {W w : World} {L : List Seg} {v : Value} {l : List UInt8} {b : Nat} {N x y : Int} {ps : List Pcl}

theorem OwnS.sub {E : TypeId} {size : Nat} {g n cap : Nat} {xs : List Value} {S : Seg} (h : OwnS E size (.slice (some ⟨g, 0, none⟩) n cap) n xs S) (L : List Seg) (k : Nat) (hk : k ≤ n) (A : Option Addr) (c : Nat)
    (hA : k < n → A = some ⟨g, k * size, none⟩) : RS (S :: L) size (.slice A (n - k) c) (n - k) (xs.drop (k * size)) := by
  refine ⟨by rw [List.length_drop, h.1, Nat.sub_mul], ?_⟩
  by_cases hkn : k < n
  · right
    rcases (h.rs L).2 with ⟨h0, _⟩ | ⟨b, o, cap', cc, E', fr, hv, hm, hc⟩
    · omega
    · obtain ⟨⟨rfl, rfl⟩, rfl⟩ := by simpa using hv
      refine ⟨g, k * size, c, cc, E', fr, by rw [hA hkn], hm, fun j u hu => ?_⟩
      rw [List.getElem?_drop] at hu
      have := hc (k * size + j) u hu
      simpa using this
  · left
    exact ⟨by omega, A, c, by rw [show n - k = 0 by omega]⟩

set_option maxHeartbeats 800000 in
theorem take_out (i : Int) (A : Option Addr) (n c : Nat) (hH : H W w L) (hq : w.cell? ⟨b, 1, none⟩ = some (.slice A n c)) (hi : i < 0 ∨ (n : Int) ≤ i) :
    Calls Try.prog 12 #[.pointer (some ⟨b, 0, none⟩), .int .i64 i] w (PGetNone fun w' => H W w' L) := by
  have h0 := hH.alloc (Obj.cells #[.int .i64 0, .int .i64 0, .slice none 0 0] 30)
  have h' := Lib.hid h0
  have hb : b < w.heap.size := World.block_lt_of_cell? _ _ hq
  have hq' : (w.alloc (Obj.cells #[.int .i64 0, .int .i64 0, .slice none 0 0] 30)).cell? ⟨b, 1, none⟩ = some (.slice A n c) := by rw [World.cell?_alloc_lt _ _ _ hb]; exact hq
  have hq2 := Lib.hid hq'
  have hi' := Lib.hid hi
  clear hH hq' h0 hi
  go_enter Try.func12, Try.ntmps12
  go_wp2_with (go_at_call 9; refine (get_out i A n c h'.out hq2.out hi'.out).mono ?_; rintro e w1 ⟨rfl, h1⟩; have d0 := h1.cellAt 0 0 0 rfl rfl rfl; have d1 := h1.cellAt 0 0 1 rfl rfl rfl; have d2 := h1.cellAt 0 0 2 rfl rfl rfl; have f0 := fun k => h1.freeAt 0 0 k rfl rfl; have hlt := h1.ltAt 0 0 rfl rfl)
  have hf := h1.set3 (x := .int .i64 0) (y := .int .i64 0) (z := .slice none 0 0)
  have g0 := hf.cellAt 0 0 0 rfl rfl rfl
  have g1 := hf.cellAt 0 0 1 rfl rfl rfl
  have g2 := hf.cellAt 0 0 2 rfl rfl rfl
  refine bodyPost_ret (v := .tuple #[.agg #[.int .i64 0, .int .i64 0, .slice none 0 0], .bool false]) (by simp [results, Try.results12, go_sem, g0, g1, g2, hlt]) rfl ⟨rfl, (hf.alloc _).drop.drop⟩

set_option maxHeartbeats 800000 in
theorem take_nil (i : Int) (hH : H W w L) :
    Calls Try.prog 12 #[.pointer none, .int .i64 i] w (PGetNone fun w' => H W w' L) := by
  have h0 := hH.alloc (Obj.cells #[.int .i64 0, .int .i64 0, .slice none 0 0] 30)
  have h' := Lib.hid h0
  clear hH h0
  go_enter Try.func12, Try.ntmps12
  go_wp2_with (go_at_call 9; refine (get_nil i h'.out).mono ?_; rintro e w1 ⟨rfl, h1⟩; have d0 := h1.cellAt 0 0 0 rfl rfl rfl; have d1 := h1.cellAt 0 0 1 rfl rfl rfl; have d2 := h1.cellAt 0 0 2 rfl rfl rfl; have f0 := fun k => h1.freeAt 0 0 k rfl rfl; have hlt := h1.ltAt 0 0 rfl rfl)
  have hf := h1.set3 (x := .int .i64 0) (y := .int .i64 0) (z := .slice none 0 0)
  have g0 := hf.cellAt 0 0 0 rfl rfl rfl
  have g1 := hf.cellAt 0 0 1 rfl rfl rfl
  have g2 := hf.cellAt 0 0 2 rfl rfl rfl
  refine bodyPost_ret (v := .tuple #[.agg #[.int .i64 0, .int .i64 0, .slice none 0 0], .bool false]) (by simp [results, Try.results12, go_sem, g0, g1, g2, hlt]) rfl ⟨rfl, (hf.alloc _).drop.drop⟩

def PTake (W : World) (L : List Seg) (b : Nat) (N : Int) (g m cap : Nat) (new : List Value) (D : Seg) (p : Pcl) (e : Ending) (w' : World) : Prop :=
  ∃ A c S, e = .returned (.tuple #[.agg #[.int .i64 p.f, .int .i64 p.t, .slice A p.d.length c], .bool true]) ∧
    H W w' (S :: hdr b N (.slice (some ⟨g, 0, none⟩) m cap) :: [(g, .cells new.toArray 30 (0, 0))] :: D :: L) ∧ OB (.slice A p.d.length c) p.d S

theorem cells_one (rs : List PR) (hv : ∀ r ∈ rs, ∃ A n c, r.v = .slice A n c) : ∀ u ∈ rs.flatMap PR.cells, u.oneCell' = true := by
  intro u hu
  obtain ⟨r, hr, hu⟩ := List.mem_flatMap.1 hu
  obtain ⟨A, n, c, hv⟩ := hv r hr
  simp [PR.cells, hv] at hu
  rcases hu with rfl | rfl | rfl <;> rfl

theorem zc_eq : (Builtin.zeroCells (Value.agg #[.int .i64 0, .int .i64 0, .slice none 0 0]).cells 1).toList = [.int .i64 0, .int .i64 0, .slice none 0 0] := by kernel_rfl
theorem zc_one : ∀ u ∈ (Builtin.zeroCells (Value.agg #[.int .i64 0, .int .i64 0, .slice none 0 0]).cells 1).toList, u.oneCell' = true := by
  intro u hu
  have : (Builtin.zeroCells (Value.agg #[.int .i64 0, .int .i64 0, .slice none 0 0]).cells 1).toList = [.int .i64 0, .int .i64 0, .slice none 0 0] := by kernel_rfl
  rw [this] at hu
  simp at hu
  rcases hu with rfl | rfl <;> rfl

theorem z30 : ∃ i, Try.prog.info? 30 = some i ∧ i.zero = some (.agg #[.int .i64 0, .int .i64 0, .slice none 0 0]) := by
  obtain ⟨i, hi, h1, _⟩ := info_parts i30
  exact ⟨i, hi, h1⟩

set_option maxRecDepth 100000 in
set_option maxHeartbeats 1600000 in
theorem take_in (k m : Nat) {g cap : Nat} {cur : Array Value} {rs : List PR} (h : H W w (hdr b N (.slice (some ⟨g, 0, none⟩) (m + 1) cap) :: [(g, .cells cur 30 (0, 0))] :: datas rs :: L))
    (hn : NetOk ps (.slice (some ⟨g, 0, none⟩) (m + 1) cap) [(g, .cells cur 30 (0, 0))] rs) (hlen : rs.length = m + 1) (hk : k < m + 1) (hle : m + 1 ≤ cap) (hm : m + 1 ≤ 4096) (p : Pcl) (hp : ps[k]? = some p) :
    Calls Try.prog 12 #[.pointer (some ⟨b, 0, none⟩), .int .i64 k] w (PTake W L b N g m cap (spl (spl cur.toList (k * 3) (((rs.flatMap PR.cells).drop ((k + 1) * 3)).take ((m - k) * 3))) (m * 3) [.int .i64 0, .int .i64 0, .slice none 0 0]) (datas rs) p) := by
  have hkl := Lib.hid (show k < rs.length by omega)
  have h0 := h.alloc (Obj.cells #[.int .i64 0, .int .i64 0, .slice none 0 0] 30)
  have h' := Lib.hid (((h0.pick 3 rfl).pick 3 rfl).pick 3 rfl)
  have hn' := Lib.hid hn
  have hlen' := Lib.hid hlen
  have hp' := Lib.hid (show (rs[k]'hkl.out).p = p by
    have := hp; rw [← hn.map, List.getElem?_map, List.getElem?_eq_getElem hkl.out] at this; simpa using this)
  have hrow0 := hn.row
  rw [hlen] at hrow0
  have hrow := Lib.hid hrow0
  have hone := cells_one rs (fun r hr => by obtain ⟨A, c, hv⟩ := (hn.each r hr).1.form; exact ⟨A, _, c, hv⟩)
  have hone' := Lib.hid hone
  clear hrow0 hone
  clear h h0 hn hlen hp
  have hki : (k : Int) < ((m + 1 : Nat) : Int) := by omega
  have hck : ¬ cap = k := by omega
  have hk1 : (k : Int) ≤ (m : Int) + 1 := by omega
  have hk2 : k ≤ m := by omega
  have hk3 : (k : Int) ≤ (m : Int) := by omega
  have hwr : IntKind.i64.wrap ((k : Int) + 1) = (k : Int) + 1 := by rw [IntKind.wrap_i64]; omega
  have hp0 : (0 : Int) ≤ (k : Int) + 1 := by omega
  have hp2 : ((k : Int) + 1).toNat = k + 1 := by omega
  have hcm : ¬ cap = m := by omega
  obtain ⟨A1, hA, hA1⟩ : ∃ A1 : Option Addr, (if cap = k + 1 then some (⟨g, 0, none⟩ : Addr) else some ⟨g, (k + 1) * 3, none⟩) = A1 ∧ (k + 1 < m + 1 → A1 = some ⟨g, (k + 1) * 3, none⟩) := by
    by_cases hc : cap = k + 1
    · exact ⟨_, rfl, fun h => by omega⟩
    · exact ⟨_, rfl, fun _ => by rw [if_neg hc]⟩
  have hA1' := Lib.hid hA1
  clear hA1
  go_enter Try.func12, Try.ntmps12
  go_wp2_with (first | (go_at_call 9; refine (get_net h'.out hn'.out k hkl.out).mono ?_; rw [hp'.out]; rintro e w1 ⟨A, cap', S, rfl, h1, h2⟩; have d0 := h1.cellAt 4 0 0 rfl rfl rfl; have d1 := h1.cellAt 4 0 1 rfl rfl rfl; have d2 := h1.cellAt 4 0 2 rfl rfl rfl; have f0 := fun k => h1.freeAt 4 0 k rfl rfl; have q1 : w1.cell? ⟨b, 1, none⟩ = some (.slice (some ⟨g, 0, none⟩) (m + 1) cap) := h1.cellAt 1 0 1 rfl rfl rfl; have hlt := h1.ltAt 4 0 rfl rfl; have hlb := h1.ltAt 1 0 rfl rfl))
  have h3 := h1.alloc (.cells #[.int .i64 p.f, .int .i64 p.t, .slice A p.d.length cap'] 30)
  have h4 := Lib.hid ((h3.pick 3 rfl).drew)
  have h5 := Lib.hid (hrow.out.sub ([(w1.heap.size, Obj.cells #[.int .i64 p.f, .int .i64 p.t, .slice A p.d.length cap'] 30)] :: S :: hdr b N (.slice (some ⟨g, 0, none⟩) (m + 1) cap) :: datas rs :: [(w.heap.size, Obj.cells #[.int .i64 0, .int .i64 0, .slice none 0 0] 30)] :: L) (k + 1) (by omega) A1 (cap - (k + 1)) hA1'.out)
  have hsz : cur.size = cap * 3 := by
    rcases hrow.out.2 with ⟨hv, _⟩ | ⟨g', cap', cur', hv, hS, _, _, hs, _⟩
    · simp at hv
    · simp at hv hS; obtain ⟨_, rfl⟩ := hS; rw [hs, hv.2]
  have f1 := Lib.hid (show ∀ u ∈ (rs.flatMap PR.cells).drop ((k + 1) * 3), u.oneCell' = true from fun u hu => hone'.out u (List.mem_of_mem_drop hu))
  have f2 := Lib.hid (show k * 3 + min (m + 1 - (k + 1)) (m + 1 - k) * 3 ≤ cur.size by rw [hsz]; omega)
  have hsz' := Lib.hid hsz
  have h1' := Lib.hid h1
  have h2' := Lib.hid h2
  clear h1 h2 h3 hsz
  obtain ⟨i30', hi30, hz30⟩ := z30
  go_region_law (
    (refine step_copy rfl (.tmp 27) (.tmp 34) rfl et47 (off := k * 3) (dl := m + 1 - k) (dc := cap - k) (by simp [Act.eval, Act.put]) (by simp [Act.eval, Act.put]) h4.out h5.out f1.out f2.out ?_; intro w2 h6
     have g1 : w2.cell? ⟨b, 1, none⟩ = some (.slice (some ⟨g, 0, none⟩) (m + 1) cap) := h6.cellAt 3 0 1 rfl rfl rfl
     have g2 : w2.frozen? ⟨b, 1, none⟩ = false := h6.freeAt 3 0 1 rfl rfl))
  all_goals (
    have e0 : min (m + 1 - (k + 1)) (m + 1 - k) = m - k := by omega
    rw [e0] at h6
    have e1 : (spl cur.toList (k * 3) (((rs.flatMap PR.cells).drop ((k + 1) * 3)).take ((m - k) * 3))).length = cap * 3 := by
      rw [spl_length, Array.length_toList, hsz'.out]
      rw [List.length_take, List.length_drop, hrow.out.1, Array.length_toList, hsz'.out]; omega
    have f3 := Lib.hid (show m * 3 + (Builtin.zeroCells (Value.agg #[.int .i64 0, .int .i64 0, .slice none 0 0]).cells 1).size ≤ (spl cur.toList (k * 3) (((rs.flatMap PR.cells).drop ((k + 1) * 3)).take ((m - k) * 3))).toArray.size by
      rw [size_zeroCells]; show m * 3 + 1 * 3 ≤ (spl cur.toList (k * 3) (((rs.flatMap PR.cells).drop ((k + 1) * 3)).take ((m - k) * 3))).length; rw [e1]; omega)
    have h6' := Lib.hid h6
    clear e0 e1 h6
    obtain ⟨w3, hclr, h7⟩ := H.clear (c := cap - m) (off := m * 3) Try.underlying47 hi30 hz30 h6'.out (Nat.one_pos) f3.out zc_one 0
    have g3 : w3.cell? ⟨b, 1, none⟩ = some (.slice (some ⟨g, 0, none⟩) (m + 1) cap) := h7.cellAt 3 0 1 rfl rfl rfl
    have g4 : w3.frozen? ⟨b, 1, none⟩ = false := h7.freeAt 3 0 1 rfl rfl
    have g5 : w3.cell? ⟨w.heap.size, 0, none⟩ = some (.int .i64 0) := h7.cellAt 5 0 0 rfl rfl rfl
    have g6 : w3.cell? ⟨w.heap.size, 1, none⟩ = some (.int .i64 0) := h7.cellAt 5 0 1 rfl rfl rfl
    have g7 : w3.cell? ⟨w.heap.size, 2, none⟩ = some (.slice none 0 0) := h7.cellAt 5 0 2 rfl rfl rfl
    have g8 := fun k => h7.freeAt 5 0 k rfl rfl
    have i0 : w3.cell? ⟨w1.heap.size, 0, none⟩ = some (.int .i64 p.f) := h7.cellAt 1 0 0 rfl rfl rfl
    have i1 : w3.cell? ⟨w1.heap.size, 1, none⟩ = some (.int .i64 p.t) := h7.cellAt 1 0 1 rfl rfl rfl
    have i2 : w3.cell? ⟨w1.heap.size, 2, none⟩ = some (.slice A p.d.length cap') := h7.cellAt 1 0 2 rfl rfl rfl
    have nb : w.heap.size ≠ b := (h7.pick 5 rfl).neq 0 3 0 rfl rfl rfl
    rw [zc_eq] at h7
    have h7' := Lib.hid h7
    clear h7
    go_wp2
    have hA := (h7'.out.pick 3 rfl).setCell 1 (.slice (some ⟨g, 0, none⟩) m cap)
    have hB := (hA.pick 5 rfl).set3 (x := .int .i64 p.f) (y := .int .i64 p.t) (z := .slice A p.d.length cap')
    have k0 := hB.cellAt 0 0 0 rfl rfl rfl
    have k1 := hB.cellAt 0 0 1 rfl rfl rfl
    have k2 := hB.cellAt 0 0 2 rfl rfl rfl
    refine bodyPost_ret (v := .tuple #[.agg #[.int .i64 p.f, .int .i64 p.t, .slice A p.d.length cap'], .bool true]) (by simp [results, Try.results12, go_sem, k0, k1, k2]) rfl ⟨A, cap', S, rfl, ?_, h2'.out⟩
    exact ((hB.drop.pick 2 rfl).drop).pick 2 rfl)

theorem flat_take (rs : List PR) (k : Nat) : (rs.take k).flatMap PR.cells = (rs.flatMap PR.cells).take (k * 3) := by
  induction rs generalizing k with
  | nil => simp
  | cons r rs ih =>
    cases k with
    | zero => simp
    | succ k =>
      simp only [List.take_succ_cons, List.flatMap_cons, ih, List.take_append]
      have : (PR.cells r).length = 3 := rfl
      rw [this, show (k + 1) * 3 - 3 = k * 3 by omega, List.take_of_length_le (l := PR.cells r) (by rw [this]; omega)]
theorem flat_drop (rs : List PR) (k : Nat) : (rs.drop k).flatMap PR.cells = (rs.flatMap PR.cells).drop (k * 3) := by
  induction rs generalizing k with
  | nil => simp
  | cons r rs ih =>
    cases k with
    | zero => simp
    | succ k =>
      simp only [List.drop_succ_cons, List.flatMap_cons, ih, List.drop_append]
      have : (PR.cells r).length = 3 := rfl
      rw [this, show (k + 1) * 3 - 3 = k * 3 by omega, List.drop_of_length_le (l := PR.cells r) (by rw [this]; omega), List.nil_append]
theorem flat_len (rs : List PR) : (rs.flatMap PR.cells).length = rs.length * 3 := by
  induction rs with
  | nil => rfl
  | cons r rs ih => simp only [List.flatMap_cons, List.length_append, ih, List.length_cons]; simp [PR.cells]; omega

theorem map_eraseIdx' {α β : Type} (f : α → β) : ∀ (l : List α) (k : Nat), (l.eraseIdx k).map f = (l.map f).eraseIdx k
  | [], _ => rfl
  | _ :: _, 0 => rfl
  | a :: l, k + 1 => by simp only [List.eraseIdx_cons_succ, List.map_cons, map_eraseIdx' f l k]
theorem take_spl {cur vs : List Value} {off : Nat} (h : off ≤ cur.length) : (spl cur off vs).take off = cur.take off := by
  unfold spl
  rw [List.append_assoc, List.take_append_of_le_length (by rw [List.length_take]; omega), List.take_take, Nat.min_self]
theorem take_row {cur : List Value} {rs : List PR} {k m : Nat} (hlen : rs.length = m + 1) (hk : k < m + 1) (hc : cur.take ((m + 1) * 3) = rs.flatMap PR.cells) (hsz : (m + 1) * 3 ≤ cur.length) (z : List Value) :
    (spl (spl cur (k * 3) (((rs.flatMap PR.cells).drop ((k + 1) * 3)).take ((m - k) * 3))) (m * 3) z).take (m * 3) = (rs.eraseIdx k).flatMap PR.cells := by
  have e1 : ((rs.flatMap PR.cells).drop ((k + 1) * 3)).take ((m - k) * 3) = (rs.flatMap PR.cells).drop ((k + 1) * 3) :=
    List.take_of_length_le (by rw [List.length_drop, flat_len, hlen]; omega)
  rw [e1]
  have hl : ((rs.flatMap PR.cells).drop ((k + 1) * 3)).length = (m - k) * 3 := by rw [List.length_drop, flat_len, hlen]; omega
  have h2 : (spl cur (k * 3) ((rs.flatMap PR.cells).drop ((k + 1) * 3))).take (m * 3) = cur.take (k * 3) ++ (rs.flatMap PR.cells).drop ((k + 1) * 3) := by
    unfold spl
    rw [List.take_append_of_le_length (by rw [List.length_append, List.length_take, hl]; omega)]
    exact List.take_of_length_le (by rw [List.length_append, List.length_take, hl]; omega)
  have h3 : (spl (spl cur (k * 3) ((rs.flatMap PR.cells).drop ((k + 1) * 3))) (m * 3) z).take (m * 3) = (spl cur (k * 3) ((rs.flatMap PR.cells).drop ((k + 1) * 3))).take (m * 3) := by
    have hle : m * 3 ≤ (spl cur (k * 3) ((rs.flatMap PR.cells).drop ((k + 1) * 3))).length := by
      rw [spl_length (by rw [hl]; omega)]; omega
    exact take_spl hle
  rw [h3, h2]
  have h4 : cur.take (k * 3) = (rs.take k).flatMap PR.cells := by
    rw [flat_take, ← hc, List.take_take, Nat.min_eq_left (by omega)]
  rw [h4, ← flat_drop, ← List.flatMap_append, List.eraseIdx_eq_take_drop_succ]

def PTaken (W : World) (L : List Seg) (b : Nat) (N : Int) (ps : List Pcl) (k : Nat) (p : Pcl) (e : Ending) (w' : World) : Prop :=
  ∃ A c S, e = .returned (.tuple #[.agg #[.int .i64 p.f, .int .i64 p.t, .slice A p.d.length c], .bool true]) ∧ Net W w' (S :: L) b N (ps.eraseIdx k) ∧ OB (.slice A p.d.length c) p.d S

theorem take_net {pv : Value} {SP : Seg} {rs : List PR} (h : H W w (hdr b N pv :: SP :: datas rs :: L)) (hn : NetOk ps pv SP rs) (k : Nat) (p : Pcl) (hp : ps[k]? = some p) :
    Calls Try.prog 12 #[.pointer (some ⟨b, 0, none⟩), .int .i64 k] w (PTaken W L b N ps k p) := by
  have hk : k < rs.length := by
    have := (List.getElem?_eq_some_iff.1 hp).1
    rw [← hn.map] at this; simpa using this
  obtain ⟨m, hm⟩ : ∃ m, rs.length = m + 1 := ⟨rs.length - 1, by omega⟩
  rcases hn.row.2 with ⟨_, h0, _⟩ | ⟨g, cap, cur, rfl, rfl, hle, hmx, hsz, htk⟩
  · omega
  · rw [hm] at h hn htk hle
    refine (take_in k m h hn hm (by omega) hle (by have := hn.le; omega) p hp).mono ?_
    rintro e w' ⟨A, c, S, rfl, h1, h2⟩
    refine ⟨A, c, S, rfl, ?_, h2⟩
    have hrow := take_row (k := k) hm (by omega) htk (by simp; omega) [.int .i64 0, .int .i64 0, .slice none 0 0]
    have hlen' : (rs.eraseIdx k).length = m := by rw [List.length_eraseIdx, if_pos hk]; omega
    refine ⟨.slice (some ⟨g, 0, none⟩) m cap, [(g, .cells (spl (spl cur.toList (k * 3) (((rs.flatMap PR.cells).drop ((k + 1) * 3)).take ((m - k) * 3))) (m * 3) [.int .i64 0, .int .i64 0, .slice none 0 0]).toArray 30 (0, 0))], rs.eraseIdx k, ?_, ?_⟩
    · have h3 := ((h1.pick 3 rfl).dataOut k hk).drop
      exact ((h3.pick 2 rfl).pick 3 rfl).swap
    · refine ⟨⟨flat_len _, Or.inr ⟨g, cap, (spl (spl cur.toList (k * 3) (((rs.flatMap PR.cells).drop ((k + 1) * 3)).take ((m - k) * 3))) (m * 3) [.int .i64 0, .int .i64 0, .slice none 0 0]).toArray, by rw [hlen'], rfl, by omega, hmx, ?_, ?_⟩⟩, ?_, ?_, by have := hn.le; omega⟩
      · show (spl (spl cur.toList (k * 3) (((rs.flatMap PR.cells).drop ((k + 1) * 3)).take ((m - k) * 3))) (m * 3) [.int .i64 0, .int .i64 0, .slice none 0 0]).length = cap * 3
        have e1 : (((rs.flatMap PR.cells).drop ((k + 1) * 3)).take ((m - k) * 3)).length = (m - k) * 3 := by rw [List.length_take, List.length_drop, flat_len, hm]; omega
        have e2 : (spl cur.toList (k * 3) (((rs.flatMap PR.cells).drop ((k + 1) * 3)).take ((m - k) * 3))).length = cap * 3 := by rw [spl_length (by rw [e1, Array.length_toList]; omega), Array.length_toList, hsz]
        rw [spl_length (by rw [e2]; simp; omega), e2]
      · rw [hlen']; exact hrow
      · intro r hr; exact hn.each r (List.mem_of_mem_eraseIdx hr)
      · rw [← hn.map, map_eraseIdx']
end Go.Proofs.Ytggphdbifjoflaa
