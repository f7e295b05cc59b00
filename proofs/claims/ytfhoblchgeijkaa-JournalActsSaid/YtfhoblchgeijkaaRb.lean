import Derived.Test.YtfhoblchgeijkaaRa
namespace Go.Proofs.Ytfhoblchgeijkaa
open Go.RowKit Go.Maps
variable {W w : World} {L T : List Seg} {v : Value} {l n bs : Bs} {b : Nat} {d : AD} {S : Seg}

theorem rhdr_fs (b : Nat) (d : AD) (fs : List AF) (lv : Value) : rhdr b { d with fs := fs } lv = rhdr b d lv := rfl
theorem rhdr_wrote (b : Nat) (d : AD) (fs : List AF) (lv : Value) : rhdr b ({ d with fs := fs } : AD).wrote lv = rhdr b d.wrote lv := by
  unfold AD.wrote rhdr; simp only; split <;> (try split) <;> rfl

set_option maxHeartbeats 400000 in
theorem rfails {lv : Value} (h : H W w (rhdr b d lv :: T)) (hl : d.left < 9223372036854775808) : Calls Try.prog 65 #[.pointer (some ⟨b, 0, none⟩)] w (PBool (!d.writes) fun w' => H W w' (rhdr b d.wrote lv :: T)) := by
  obtain ⟨fs, off, armed, left⟩ := d
  have c1 : w.cell? ⟨b, 1, none⟩ = some (.bool armed) := h.cellAt 0 0 1 rfl rfl rfl
  have c2 : w.cell? ⟨b, 2, none⟩ = some (.int .i64 left) := h.cellAt 0 0 2 rfl rfl rfl
  have c3 : w.cell? ⟨b, 3, none⟩ = some (.bool off) := h.cellAt 0 0 3 rfl rfl rfl
  have f2 : w.frozen? ⟨b, 2, none⟩ = false := h.freeAt 0 0 2 rfl rfl
  have f3 : w.frozen? ⟨b, 3, none⟩ = false := h.freeAt 0 0 3 rfl rfl
  have h' := Lib.hid h
  simp only at hl
  clear h
  cases armed with
  | false =>
    go_enter Try.func65, Try.ntmps65
    go_wp2
    go_ret
    exact ⟨rfl, h'.out⟩
  | true =>
    by_cases h0 : left = 0
    · subst h0
      go_enter Try.func65, Try.ntmps65
      go_wp2
      go_ret
      exact ⟨rfl, h'.out.setCell 3 (.bool true)⟩
    · have e0 : decide ((0 : Int) < (left : Int)) = true := by simp; omega
      have e2 : 0 < left := by omega
      go_enter Try.func65, Try.ntmps65
      go_wp2
      go_ret
      refine ⟨by simp [AD.writes, h0], ?_⟩
      have := h'.out.setCell 2 (.int .i64 ((left - 1 : Nat) : Int))
      simp only [AD.wrote, h0, if_true, if_false]
      rw [show ((left - 1 : Nat) : Int) = (left : Int) - 1 by omega] at this
      exact this.perm (by simp [rhdr, show ((left - 1 : Nat) : Int) = (left : Int) - 1 by omega])

set_option maxHeartbeats 400000 in
theorem rarm_disk (h : RDisk W w L b d) (n : Int) (hn : n < 9223372036854775808) : Calls Try.prog 34 #[.pointer (some ⟨b, 0, none⟩), .int .i64 n] w (PVoid fun w' => RDisk W w' L b (d.arm n)) := by
  obtain ⟨lv, SL, rs, h, hk⟩ := h
  have f1 : w.frozen? ⟨b, 1, none⟩ = false := h.freeAt 0 0 1 rfl rfl
  have f2 : w.frozen? ⟨b, 2, none⟩ = false := h.freeAt 0 0 2 rfl rfl
  have c1 : w.cell? ⟨b, 1, none⟩ = some (.bool d.armed) := h.cellAt 0 0 1 rfl rfl rfl
  have c2 : w.cell? ⟨b, 2, none⟩ = some (.int .i64 d.left) := h.cellAt 0 0 2 rfl rfl rfl
  have hg := Lib.hid (show ∀ x : Int, (n.toNat : Int) = x → H W ((w.setCell ⟨b, 1, none⟩ (.bool true)).setCell ⟨b, 2, none⟩ (.int .i64 x)) (rhdr b (d.arm n) lv :: SL :: rdatas rs :: L) from
    fun x hx => by subst hx; exact (h.setCell 1 (.bool true)).setCell 2 (.int .i64 n.toNat))
  have hk' := Lib.hid hk
  clear h hk
  go_enter Try.func34, Try.ntmps34
  go_wp2
  all_goals (
    go_end0
    exact ⟨rfl, lv, SL, rs, hg.out _ (by omega), ⟨hk'.out.row, hk'.out.each, hk'.out.fs, by simp only [AD.arm]; omega, hk'.out.le⟩⟩)

set_option maxHeartbeats 400000 in
theorem rmod (p : Int) (n : Nat) (hn : 0 < n) (hn2 : n ≤ 1099511627777) (hi : InI p) (x : Int) (hx : x = n) (w : World) : Calls Try.prog 66 #[.int .i64 p, .int .i64 x] w (PInt ((p % (n : Int)).toNat) fun w' => w = w') := by
  subst hx
  have e1 : ((n : Int) == 0) = false := by simp; omega
  have hi' := hi
  unfold InI at hi'
  rcases modI p n hn hn2 with ⟨m1, m2, m3⟩ | ⟨m1, m2, m3⟩
  · have d1 : decide (p.tmod n < 0) = true := by simpa using m1
    have hg := Lib.hid m2
    clear m2
    go_enter Try.func66, Try.ntmps66
    go_wp2
    go_ret
    exact ⟨congrArg (fun x : Int => Ending.returned (.int .i64 x)) hg.out, rfl⟩
  · have d1 : decide (p.tmod n < 0) = false := by simp; omega
    have hg := Lib.hid m2
    clear m2
    go_enter Try.func66, Try.ntmps66
    go_wp2
    go_ret
    exact ⟨congrArg (fun x : Int => Ending.returned (.int .i64 x)) hg.out, rfl⟩

/-- The pick at an index. -/
def pickV (ps : List Int) (i : Nat) : Int := ps.getD i 0

set_option maxHeartbeats 400000 in
theorem rpick {vp : Value} {ps : List Int} (h : H W w L) (hr : RI L vp ps) (i : Nat) (x : Int) (hx : x = i) : Calls Try.prog 67 #[vp, .int .i64 x] w (PInt (pickV ps i) fun w' => w = w') := by
  subst hx
  obtain ⟨A, cap, rfl, _⟩ := hr.room
  by_cases hlt : i < ps.length
  · have hii : (i : Int) < (ps.length : Int) := by omega
    have hpv : pickV ps i = ps[i] := by simp [pickV, List.getD, hlt]
    rcases hr.rs.2 with ⟨h0, _⟩ | ⟨g, o, cap', c, E, fr, h1, h2, h3⟩
    · omega
    · simp only [Value.slice.injEq] at h1
      obtain ⟨rfl, _, rfl⟩ := h1
      have c0 : w.cell? ⟨g, o + i, none⟩ = some (.int .i64 (pickV ps i)) := by
        refine h.cell h2 (h3 i _ ?_)
        rw [hpv]; simp [i64s, hlt]
      clear h hr h2 h3 hpv
      go_enter Try.func67, Try.ntmps67
      go_wp2
      go_ret
      exact ⟨rfl, rfl⟩
  · have hii : ¬ (i : Int) < (ps.length : Int) := by omega
    have hpv : pickV ps i = 0 := by unfold pickV List.getD; rw [List.getElem?_eq_none (by omega)]; rfl
    rw [hpv]
    clear h hr hpv
    go_enter Try.func67, Try.ntmps67
    go_wp2
    go_ret
    exact ⟨rfl, rfl⟩

theorem idx_some (h : (d.find n).isNone = false) : ∃ k, ∃ hk : k < d.fs.length, d.idx n = (k : Int) ∧ d.find n = some d.fs[k] ∧ d.fs[k].name = n ∧ (∀ j (hj : j < d.fs.length), j < k → d.fs[j].name ≠ n) := by
  unfold AD.find at h
  obtain ⟨f, hf⟩ : ∃ f, d.fs.find? (fun f => f.name == n) = some f := by
    cases hc : d.fs.find? (fun f => f.name == n) with
    | none => rw [hc] at h; simp at h
    | some f => exact ⟨f, rfl⟩
  obtain ⟨h1, fs1, fs2, h2, h3⟩ := List.find?_eq_some_iff_append.1 hf
  have hk : fs1.length < d.fs.length := by rw [h2]; simp
  have e0 : d.fs[fs1.length] = f := by
    have : d.fs[fs1.length]? = some f := by rw [h2]; simp
    rw [List.getElem?_eq_getElem hk] at this
    simpa using this
  have e1 : ∀ j (hj : j < d.fs.length), j < fs1.length → (d.fs[j].name == n) = false := by
    intro j hj hjk
    have : d.fs[j]? = some fs1[j] := by rw [h2, List.getElem?_append_left hjk, List.getElem?_eq_getElem hjk]
    rw [List.getElem?_eq_getElem hj] at this
    simp only [Option.some.injEq] at this
    rw [this]
    have := h3 fs1[j] (List.getElem_mem hjk)
    simpa using this
  refine ⟨fs1.length, hk, ?_, ?_, ?_, ?_⟩
  · unfold AD.idx AD.find
    rw [hf, (idxF_at n d.fs fs1.length e1 hk (by rw [e0]; exact h1)).1]; rfl
  · unfold AD.find; rw [hf, e0]
  · rw [e0]; simpa using h1
  · intro j hj hjk; simpa using e1 j hj hjk

theorem mem_rdatas {rs : List RF} {r : RF} (hr : r ∈ rs) : ∀ p ∈ r.S, p ∈ rdatas rs := fun _ hp => List.mem_flatMap.2 ⟨r, hr, hp⟩
theorem RF.rs {rs : List RF} {r : RF} (hr : r ∈ rs) (hok : r.ok) (L : List Seg) : RS (rdatas rs :: L) 1 r.v r.a.data.length (u8s r.a.data) :=
  (hok.1.rs []).mono (by intro p hp; simp only [List.flatten_cons, List.flatten_nil, List.append_nil] at hp; simp only [List.flatten_cons, List.mem_append]; exact .inl (mem_rdatas hr p hp))

def PRRead (W : World) (L : List Seg) (b : Nat) (d : AD) (n : Bs) (e : Ending) (w' : World) : Prop :=
  ∃ A cap S, e = .returned (.tuple #[.slice A (d.rd n).length cap, .int .i64 (d.existE n)]) ∧ RDisk W w' (S :: L) b d ∧ OB (.slice A (d.rd n).length cap) (d.rd n) S

theorem nonempty_bstr (hn : n ≠ []) : (bstr n).toList.isEmpty = false := by rw [bstr_toList]; simpa using hn
theorem empty_bstr : (bstr []).toList.isEmpty = true := by rw [bstr_toList]; rfl

set_option maxHeartbeats 1600000 in
theorem rread_disk (h : RDisk W w L b d) : Calls Try.prog 22 #[.pointer (some ⟨b, 0, none⟩), .string (bstr n)] w (PRRead W L b d n) := by
  obtain ⟨lv, SL, rs, h, hk⟩ := h
  have hH := Lib.hid h
  have hK := Lib.hid hk
  have hnil : ∀ x : Int, d.existE n = x → x ≠ 0 → PRRead W L b d n (.returned (.tuple #[.slice none 0 0, .int .i64 x])) w := by
    intro x hx hx0
    have hrd : d.rd n = [] := by unfold AD.rd; rw [if_neg (by rw [hx]; exact hx0)]
    refine ⟨none, 0, [], by rw [hrd, hx]; rfl, ⟨lv, SL, rs, hH.out.addNil.tail3, hK.out⟩, by rw [hrd]; exact OwnS.nil 5 1⟩
  by_cases h0 : n = []
  · subst h0
    have ks := empty_bstr
    have hfin := Lib.hid (hnil 1 (by unfold AD.existE; simp) (by decide))
    clear h hk hnil
    go_enter Try.func22, Try.ntmps22
    go_wp2
    go_ret2
    exact hfin.out
  have ks := nonempty_bstr h0
  by_cases h1 : d.off = true
  · have c3 : w.cell? ⟨b, 3, none⟩ = some (.bool true) := by have := h.cellAt 0 0 3 rfl rfl (v := .bool d.off) rfl; rw [h1] at this; exact this
    have hfin := Lib.hid (hnil 103 (by unfold AD.existE; simp [h0, h1]) (by decide))
    clear h hk hnil
    go_enter Try.func22, Try.ntmps22
    go_wp2
    go_ret2
    exact hfin.out
  have h1' : d.off = false := by simpa using h1
  have c3 : w.cell? ⟨b, 3, none⟩ = some (.bool false) := by have := h.cellAt 0 0 3 rfl rfl (v := .bool d.off) rfl; rw [h1'] at this; exact this
  have hfd := rfind (n := n) h hk.row hk.fs hk.le
  by_cases h2 : (d.find n).isNone = true
  · have hfin := Lib.hid (hnil 6 (by unfold AD.existE; simp [h0, h1, h2]) (by decide))
    rw [show d.idx n = -1 by unfold AD.idx; rw [if_pos h2]] at hfd
    clear h hk hnil
    go_enter Try.func22, Try.ntmps22
    go_wp2_with (go_at_call 54; refine hfd.mono ?_; rintro e w' ⟨rfl, rfl⟩)
    go_ret2
    exact hfin.out
  · obtain ⟨k, hkl, e1, e2, _, _⟩ := idx_some (Bool.eq_false_iff.2 h2)
    rw [e1] at hfd
    have hkr : k < rs.length := by rw [← hk.fs] at hkl; simpa using hkl
    have hra : d.fs[k] = rs[k].a := by simp [← hk.fs]
    obtain ⟨g, cap, cur, hlv, hSL, _, _, hcur⟩ := rrow hk.row (by omega)
    have c0 : w.cell? ⟨b, 0, none⟩ = some (.slice (some ⟨g, 0, none⟩) rs.length cap) := by rw [← hlv]; exact h.cellAt 0 0 0 rfl rfl rfl
    have hok := hk.each _ (List.getElem_mem hkr)
    obtain ⟨Av, cv, hv⟩ := hok.1.form
    have c1 : w.cell? ⟨g, k * 3 + 1, none⟩ = some (.slice Av rs[k].a.data.length cv) := by
      rw [← hv]
      exact h.cellAt 1 0 (k * 3 + 1) (by rw [hSL]; rfl) rfl (hcur k hkr 1 (by decide))
    have hrd : d.rd n = rs[k].a.data := by
      unfold AD.rd AD.existE
      rw [if_neg h0, if_neg h1, if_neg h2, if_pos rfl, e2, ← hra]; rfl
    have hex : d.existE n = 0 := by unfold AD.existE; rw [if_neg h0, if_neg h1, if_neg h2]
    have hrs := Lib.hid (by have := RF.rs (List.getElem_mem hkr) hok L; rw [hv] at this; exact this)
    have hki : (k : Int) < (rs.length : Int) := by omega
    have hbnd : rs[k].a.data.length ≤ 1099511627776 := hok.2.1
    have hgl : ¬ w.heap.size = g := by have := h.ltAt 1 0 (s := SL) rfl (by rw [hSL]; rfl); omega
    have hbl : b < w.heap.size := h.ltAt 0 0 rfl rfl
    have hgl2 : g < w.heap.size := h.ltAt 1 0 (s := SL) rfl (by rw [hSL]; rfl)
    have hrd' := Lib.hid hrd
    have hex' := Lib.hid hex
    obtain ⟨dt, hdt⟩ : ∃ dt, rs[k].a.data = dt := ⟨_, rfl⟩
    rw [hdt] at hrs hrd' hbnd c1
    clear h hk hnil hv hok hdt hrd hex e2 hra hlv hSL hcur
    go_enter Try.func22, Try.ntmps22
    go_wp2_with (first
      | (go_at_call 54; refine hfd.mono ?_; rintro e w' ⟨rfl, rfl⟩)
      | (at_builtin; refine wpl_append rfl (.tmp 18) (.tmp 26) rfl et27 rfl rfl (hH.out.alloc _) (hH.out.lit #[] 0 (by simp [maxLen]) rfl) (((hrs.out.cons SL).cons (rhdr b d lv)).cons _) (u8s_one dt) (by omega) (by omega) ?_; intro A' cap' w' S' h2 h3
         have h2' := Lib.hid h2
         have h3' := Lib.hid h3
         clear h2 h3))
    go_ret2
    have h3 := h3'.out
    simp only [Nat.zero_add, List.nil_append] at h3
    refine ⟨A', cap', S', by rw [hrd'.out, hex'.out]; simp, ⟨lv, SL, rs, h2'.out.tail3, hK.out⟩, by rw [hrd'.out]; exact h3⟩
end Go.Proofs.Ytfhoblchgeijkaa
