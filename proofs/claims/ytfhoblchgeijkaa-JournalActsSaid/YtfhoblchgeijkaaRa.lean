import Derived.Test.YtfhoblchgeijkaaXa
namespace Go.Proofs.Ytfhoblchgeijkaa
open Go.RowKit Go.Maps
variable {W w : World} {L T : List Seg} {v : Value} {l n bs : Bs} {b : Nat} {d : AD} {S : Seg}

/-- A file as it lies in the reference disk. -/
structure RF where
  a : AF
  v : Value
  S : Seg
def RF.cells (r : RF) : List Value := [.string (bstr r.a.name), r.v, .int .i64 r.a.dur]
def RF.ok (r : RF) : Prop := OB r.v r.a.data r.S ∧ r.a.data.length ≤ 1099511627776 ∧ r.a.dur ≤ r.a.data.length
def rdatas (rs : List RF) : Seg := rs.flatMap RF.S
def rhdr (b : Nat) (d : AD) (lv : Value) : Seg := [(b, .cells #[lv, .bool d.armed, .int .i64 d.left, .bool d.off] 43 (0, 0))]

structure ROk (d : AD) (lv : Value) (SL : Seg) (rs : List RF) : Prop where
  row : OwnS 89 3 lv rs.length (rs.flatMap RF.cells) SL
  each : ∀ r ∈ rs, r.ok
  fs : rs.map RF.a = d.fs
  left : d.left < 9223372036854775808
  le : rs.length ≤ 1099511627776

/-- The reference disk at block b, in w. -/
def RDisk (W w : World) (L : List Seg) (b : Nat) (d : AD) : Prop :=
  ∃ lv SL rs, H W w (rhdr b d lv :: SL :: rdatas rs :: L) ∧ ROk d lv SL rs

theorem RDisk.h (h : RDisk W w L b d) : H W w L := by
  obtain ⟨M, SM, rs, h1, h2⟩ := h
  exact h1.drop.drop.drop
theorem RDisk.mono {L' : List Seg} (h : RDisk W w L b d) (hs : L'.flatten.Sublist L.flatten) : RDisk W w L' b d := by
  obtain ⟨M, SM, rs, h1, h2⟩ := h
  refine ⟨M, SM, rs, h1.sub ?_, h2⟩
  simp only [List.flatten_cons]
  exact (((hs.append_left _).append_left _).append_left _)
theorem RDisk.drop {A : Seg} (h : RDisk W w (A :: L) b d) : RDisk W w L b d := h.mono (by simp)

theorem rflat_get (rs : List RF) (i : Nat) (hi : i < rs.length) (j : Nat) (hj : j < 3) : (rs.flatMap RF.cells)[i * 3 + j]? = (rs[i].cells)[j]? := by
  induction rs generalizing i with
  | nil => simp at hi
  | cons r rs ih =>
    cases i with
    | zero =>
      simp only [List.flatMap_cons, Nat.zero_mul, Nat.zero_add, List.getElem_cons_zero]
      rw [List.getElem?_append_left (by simp [RF.cells]; exact hj)]
    | succ i =>
      simp only [List.flatMap_cons, List.getElem_cons_succ]
      rw [List.getElem?_append_right (by simp [RF.cells]; omega)]
      have : (i + 1) * 3 + j - (RF.cells r).length = i * 3 + j := by simp [RF.cells]; omega
      rw [this]
      exact ih i (by simpa using hi)
theorem rflat_len (rs : List RF) : (rs.flatMap RF.cells).length = rs.length * 3 := by
  induction rs with
  | nil => rfl
  | cons r rs ih => simp only [List.flatMap_cons, List.length_append, ih, List.length_cons, RF.cells]; simp; omega

/-- The index of the first file of a name. -/
def idxF (n : Bs) : List AF → Nat
  | [] => 0
  | f :: r => if f.name == n then 0 else idxF n r + 1
def AD.idx (d : AD) (n : Bs) : Int := if (d.find n).isNone then -1 else idxF n d.fs

theorem idxF_le (n : Bs) : ∀ fs, idxF n fs ≤ fs.length
  | [] => Nat.le_refl _
  | f :: r => by unfold idxF; split <;> simp; exact idxF_le n r
theorem idxF_none (n : Bs) : ∀ fs : List AF, (fs.find? fun f => f.name == n) = none → idxF n fs = fs.length
  | [], _ => rfl
  | f :: r, h => by
    rw [List.find?_cons] at h
    unfold idxF
    cases hc : f.name == n
    · rw [hc] at h; simp only [Bool.false_eq_true, if_false]; rw [idxF_none n r (by simpa using h)]; rfl
    · rw [hc] at h; simp at h
theorem idxF_at (n : Bs) : ∀ (fs : List AF) (k : Nat), (∀ j (hj : j < fs.length), j < k → (fs[j].name == n) = false) → (h : k < fs.length) → (fs[k].name == n) = true → idxF n fs = k ∧ ((fs.find? fun f => f.name == n).isNone = false)
  | [], k, _, h, _ => by simp at h
  | f :: r, 0, _, _, h2 => by
    simp only [List.getElem_cons_zero] at h2
    unfold idxF
    simp [h2]
  | f :: r, k + 1, h1, h, h2 => by
    have h0 := h1 0 (by simp) (by omega)
    simp only [List.getElem_cons_zero] at h0
    obtain ⟨e1, e2⟩ := idxF_at n r k (fun j hj hjk => by have := h1 (j + 1) (by simp; exact hj) (by omega); simpa using this) (by simpa using h) (by simpa using h2)
    unfold idxF
    rw [List.find?_cons, h0]
    simp [e1, e2]
theorem find_none_of (n : Bs) (fs : List AF) (h : ∀ j (hj : j < fs.length), (fs[j].name == n) = false) : (fs.find? fun f => f.name == n) = none := by
  rw [List.find?_eq_none]
  intro f hf
  obtain ⟨j, hj, rfl⟩ := List.getElem_of_mem hf
  simp [h j hj]

theorem beq_bstr (a c : Bs) : ((bstr a).toList == (bstr c).toList) = (a == c) := by rw [bstr_toList, bstr_toList]

/-- The cells of the files' row. -/
theorem rrow {lv : Value} {SL : Seg} {rs : List RF} (hrow : OwnS 89 3 lv rs.length (rs.flatMap RF.cells) SL) (h0 : 0 < rs.length) :
    ∃ g cap cur, lv = .slice (some ⟨g, 0, none⟩) rs.length cap ∧ SL = [(g, .cells cur 89 (0, 0))] ∧ cur.size = cap * 3 ∧ rs.length ≤ cap ∧ ∀ i (hi : i < rs.length) j, j < 3 → cur[i * 3 + j]? = (rs[i].cells)[j]? := by
  rcases hrow.2 with ⟨_, h1, _⟩ | ⟨g, cap, cur, h1, h2, h3, h4, h5, h6⟩
  · omega
  · refine ⟨g, cap, cur, h1, h2, h5, h3, fun i hi j hj => ?_⟩
    rw [← rflat_get rs i hi j hj, ← h6, List.getElem?_take, if_pos (by omega), Array.getElem?_toList]

def PInt (k : Int) (P : World → Prop) (e : Ending) (w' : World) : Prop := e = .returned (.int .i64 k) ∧ P w'

set_option maxHeartbeats 1600000 in
theorem rfind {lv : Value} {SL : Seg} {rs : List RF} (h : H W w (rhdr b d lv :: SL :: T)) (hrow : OwnS 89 3 lv rs.length (rs.flatMap RF.cells) SL) (hfs : rs.map RF.a = d.fs) (hle : rs.length ≤ 1099511627776) :
    Calls Try.prog 54 #[.pointer (some ⟨b, 0, none⟩), .string (bstr n)] w (PInt (d.idx n) fun w' => w = w') := by
  obtain ⟨A, cap, rfl⟩ := hrow.form
  have c0 : w.cell? ⟨b, 0, none⟩ = some (.slice A rs.length cap) := h.cellAt 0 0 0 rfl rfl rfl
  have hname : ∀ k (hk : k < rs.length), ∃ g, A = some ⟨g, 0, none⟩ ∧ w.cell? ⟨g, k * 3, none⟩ = some (.string (bstr rs[k].a.name)) := by
    intro k hk
    obtain ⟨g, cap', cur, e1, rfl, e3, e4, e5⟩ := rrow hrow (by omega)
    simp only [Value.slice.injEq] at e1
    refine ⟨g, e1.1, ?_⟩
    exact h.cellAt 1 0 (k * 3) rfl rfl (by have := e5 k hk 0 (by decide); rw [Nat.add_zero] at this; rw [this]; rfl)
  have hname' := Lib.hid hname
  have hfs' := Lib.hid hfs
  have hnm : ∀ k (hk : k < rs.length) (hk2 : k < d.fs.length), d.fs[k].name = rs[k].a.name := by intro k hk hk2; simp [← hfs]
  have hnm' := Lib.hid hnm
  have hlen := Lib.hid (show rs.length = d.fs.length by rw [← hfs, List.length_map])
  clear h hrow hname hfs hnm
  go_enter Try.func54, Try.ntmps54
  go_wp2_with fail
  go_loopw [5] (fun i wr => wr = w ∧ ∃ k : Nat, k ≤ rs.length ∧ i = .int .i64 k ∧ ∀ j (hj : j < rs.length), j < k → (rs[j].a.name == n) = false) (fun i _ => rs.length - (intOf i).toNat)
  case atStart => exact ⟨rfl, 0, Nat.zero_le _, rfl, fun j _ hj => by omega⟩
  case round =>
    obtain ⟨rfl, k, hk, rfl, hall⟩ := hrel
    have hall' := Lib.hid hall
    clear hall
    by_cases hlt : k < rs.length
    · have hki : (k : Int) < (rs.length : Int) := by omega
      obtain ⟨g, rfl, c1⟩ := hname'.out k hlt
      cases hc : rs[k].a.name == n
      · have hc2 : ((bstr rs[k].a.name).toList == (bstr n).toList) = false := by rw [beq_bstr]; exact hc
        have hc3 : ¬ (bstr rs[k].a.name).toList = (bstr n).toList := by intro e; rw [e, beq_self_eq_true] at hc2; cases hc2
        have hc' := Lib.hid hc
        clear hc
        go_wp2_with fail
        go_roundw
        case rel => exact ⟨by first | rfl | trivial, k + 1, by omega, by go_num, fun j hj hjk => by
          rcases Nat.lt_or_ge j k with h2 | h2
          · exact hall'.out j hj h2
          · have : j = k := by omega
            subst this; exact hc'.out⟩
        case measure => simp [intOf]; omega
      · have hc2 : ((bstr rs[k].a.name).toList == (bstr n).toList) = true := by rw [beq_bstr]; exact hc
        have hc' := Lib.hid hc
        clear hc
        go_wp2_with fail
        go_ret
        refine ⟨?_, rfl⟩
        have := idxF_at n d.fs k (fun j hj hjk => by rw [hnm'.out j (by rw [hlen.out]; exact hj) hj]; exact hall'.out j (by rw [hlen.out]; exact hj) hjk) (by rw [← hlen.out]; exact hlt) (by rw [hnm'.out k hlt (by rw [← hlen.out]; exact hlt)]; exact hc'.out)
        have e : d.idx n = k := by
          unfold AD.idx AD.find
          rw [this.2, this.1]; rfl
        rw [e]; rfl
    · have hkn : k = rs.length := by omega
      subst hkn
      go_wp2_with fail
      go_ret
      refine ⟨?_, rfl⟩
      have e : d.idx n = -1 := by
        unfold AD.idx AD.find
        rw [find_none_of n d.fs (fun j hj => by rw [hnm'.out j (by rw [hlen.out]; exact hj) hj]; exact hall'.out j (by rw [hlen.out]; exact hj) (by rw [hlen.out]; exact hj))]; rfl
      rw [e]; rfl
end Go.Proofs.Ytfhoblchgeijkaa
