import Derived.Test.YtggphdbifjoflaaT
namespace Go.Proofs.Ytggphdbifjoflaa
open Go.RowKit
variable {W w : World} {L : List Seg} {v : Value} {l : List UInt8} {b : Nat} {N x y : Int} {ps : List Pcl}

def bstr (l : List UInt8) : ByteArray := ⟨l.toArray⟩
theorem bstr_toList (l : List UInt8) : (bstr l).toList = l := by
  rw [ByteArray.toList_eq]; rfl

theorem run_str_eql (a b : List UInt8) (w : World) : (binOp .eql 9 (.string (bstr a)) (.string (bstr b))).run Try.prog w = .ok (.bool (a == b)) w := by
  show (Op.stringOp .eql (bstr a) (bstr b)).run Try.prog w = _
  simp [Op.stringOp, bstr_toList]
theorem run_str_neq (a b : List UInt8) (w : World) : (binOp .neq 9 (.string (bstr a)) (.string (bstr b))).run Try.prog w = .ok (.bool (!(a == b))) w := by
  show (Op.stringOp .neq (bstr a) (bstr b)).run Try.prog w = _
  simp [Op.stringOp, bstr_toList]

theorem RL.conv {w : World} (h : H W w L) (hr : RL L v l) : (convert 22 9 v).run Try.prog w = .ok (.string (bstr l)) w := by
  obtain ⟨A, cap, rfl⟩ := hr.2.form
  cases A with
  | none =>
    have h0 : l.length = 0 := by
      rcases hr.2.2 with ⟨h0, _⟩ | ⟨b, o, c, _, _, _, hx, _⟩
      · exact h0
      · simp at hx
    have : l = [] := List.eq_nil_of_length_eq_zero h0
    subst this
    exact run_convert_bytes_nil w 22 5 Try.underlying22 Try.underlying5 _ _ 9 Try.underlying9
  | some a =>
    exact run_convert_bytes_back w 22 9 5 a cap l Try.underlying22 Try.underlying5 Try.underlying9 (fun j hj => hr.2.cell h rfl j _ (by simp [u8s, List.getElem?_eq_getElem hj]))

theorem OwnS.some {E : TypeId} {size n : Nat} {v : Value} {xs : List Value} {S : Seg} (h : OwnS E size v n xs S) (hn : 0 < n) :
    ∃ g cap cur, v = .slice (some ⟨g, 0, none⟩) n cap ∧ S = [(g, .cells cur E (0, 0))] ∧ cur.size = cap * size ∧ n ≤ cap ∧ cur.toList.take (n * size) = xs := by
  rcases h.2 with ⟨_, h0, _⟩ | ⟨g, cap, cur, h1, h2, h3, h4, h5, h6⟩
  · omega
  · exact ⟨g, cap, cur, h1, h2, h5, h3, h6⟩

theorem own_byte {n : Nat} {cur : Array Value} {d : List UInt8} (hd : d.length = n) (h : cur.toList.take (n * 1) = u8s d) (k : Nat) (hk : k < n) : cur[k]? = some (.int .u8 ((d.getD k 0).toNat : Int)) := by
  have : (u8s d)[k]? = some (.int .u8 ((d.getD k 0).toNat : Int)) := by simp [u8s, List.getD, show k < d.length by omega]
  rw [← h, List.getElem?_take, if_pos (by omega)] at this
  simpa using this

theorem xor_one_ne (x : UInt8) : x ≠ x ^^^ 1 := by
  intro h
  have h2 : x ^^^ x = x ^^^ (x ^^^ 1) := congrArg (x ^^^ ·) h
  rw [← UInt8.xor_assoc, UInt8.xor_self, UInt8.zero_xor] at h2
  exact absurd h2 (by decide)

set_option maxRecDepth 100000 in
set_option maxHeartbeats 3200000 in
theorem keeps_walk (at_ : Int) (a : Addr) (n cap : Nat) (d : List UInt8) (h : H W w L) (hr : RL L (.slice (some a) n cap) d) (hd : d.length = n) (hn : 0 < n) :
    Calls Try.prog 3 #[.slice (some a) n cap, .int .i64 at_] w (PTrue W L) := by
  have h' := Lib.hid h
  have hr' := Lib.hid hr
  have hd' := Lib.hid hd
  have hnb : n ≤ 140737488355328 := by rw [← hd]; exact hr.1
  have e0 : ((n : Int) == 0) = false := by simp; omega
  obtain ⟨k, ek, hk⟩ : ∃ k : Nat, wrap64 ((IntKind.u64.wrap at_).tmod ↑n) = (k : Int) ∧ k < n := by
    have h0 : 0 ≤ IntKind.u64.wrap at_ := by simp [IntKind.wrap, IntKind.signed, IntKind.bits]; omega
    have h1 : (IntKind.u64.wrap at_).tmod ↑n = (IntKind.u64.wrap at_) % n := Int.tmod_eq_emod_of_nonneg h0
    have h2 := Int.emod_nonneg (IntKind.u64.wrap at_) (show (n : Int) ≠ 0 by omega)
    have h3 := Int.emod_lt_of_pos (IntKind.u64.wrap at_) (show (0 : Int) < n by omega)
    refine ⟨((IntKind.u64.wrap at_) % n).toNat, ?_, by omega⟩
    rw [h1, Int.toNat_of_nonneg h2]
    unfold wrap64; omega
  have hki : (k : Int) < (n : Int) := by omega
  have hr2 := Lib.hid (show RS L 1 (.slice (some a) n cap) n (u8s d) by have := hr.2; rw [hd] at this; exact this)
  clear h hr hd
  go_enter Try.func3, Try.ntmps3
  go_wp2_with (first
    | (go_at_call 7; refine (new_any 2 h'.out).mono ?_; rintro e w1 ⟨b, rfl, pv, SP, rs, h1, h2⟩; have h1' := Lib.hid h1; have h2' := Lib.hid h2; clear h1 h2)
    | (at_builtin; refine wpl_append rfl (.tmp 25) (.tmp 26) rfl et22 rfl rfl (h1'.out.alloc _) (h1'.out.lit #[] 0 (by simp [maxLen]) rfl) ((((hr2.out.cons (datas rs)).cons SP).cons (hdr b (clampN 2) pv)).cons _) (u8s_one d) (by omega) (by omega) ?_; intro A1 c1 w2 S1 h3 h4; have h3' := Lib.hid h3; have h4' := Lib.hid h4; clear h3 h4))
  have h3 := h3'.out
  have h4 := h4'.out
  simp only [Nat.zero_add, List.nil_append] at h4
  obtain ⟨g, cg, cur, hv1, rfl, hcz, hcn, hct⟩ := h4.some hn
  simp only [Value.slice.injEq] at hv1
  obtain ⟨rfl, -, rfl⟩ := hv1
  have hnet : Net W w2 ([(g, .cells cur 5 (0, 0))] :: L) b (clampN 2) [] := ⟨pv, SP, rs, ((h3.pick 3 rfl).pick 3 rfl).pick 3 rfl, h2'.out⟩
  have hrl : RL ([(g, .cells cur 5 (0, 0))] :: L) (.slice (some ⟨g, 0, none⟩) n c1) d := ⟨by rw [hd'.out]; exact hnb, by
    have := h4.rs L; rw [hd'.out]; exact this⟩
  have hcell := Lib.hid (own_byte hd'.out hct k hk)
  have ek' := Lib.hid ek
  have hnet' := Lib.hid hnet
  have hrl' := Lib.hid hrl
  clear h3 h4 hnet hrl h3' h4' hct h1' h2'
  refine (send_net hnet'.out hrl'.out (by decide) (by decide) (by decide) (by decide) (by decide)).mono ?_
  rintro e w3 ⟨rfl, pv1, SP1, rs1, h5, h6⟩
  have s0 : w3.cell? ⟨g, k, none⟩ = some (.int .u8 ((d.getD k 0).toNat : Int)) := h5.cellAt 3 0 k rfl rfl hcell.out
  have s1 : w3.frozen? ⟨g, k, none⟩ = false := h5.freeAt 3 0 k rfl rfl
  have h5' := Lib.hid (((h5.pick 3 rfl).setCell k (.int .u8 (bits .xor .u8 ((d.getD k 0).toNat : Int) 255))).drop)
  have hn1 := Lib.hid h6
  have hlen1 : rs1.length = 1 := by have := congrArg List.length h6.map; simpa using this
  have hp1 : (rs1[0]'(by omega)).p = ⟨1, 0, d⟩ := by
    have := h6.map
    match rs1, hlen1 with
    | [r], _ => simpa using this
  have hp1' := Lib.hid hp1
  clear h5 h6 hp1
  go_wp2_with fail
  refine (get_net (k := 0) h5'.out hn1.out (by omega)).mono ?_
  rw [hp1'.out]
  rintro e w4 ⟨A2, c2, S2, rfl, h8, h9⟩
  obtain ⟨g2, cg2, cur2, hv2, rfl, hcz2, hcn2, hct2⟩ := h9.some (by show 0 < d.length; rw [hd'.out]; exact hn)
  simp only [Value.slice.injEq] at hv2
  obtain ⟨rfl, -, rfl⟩ := hv2
  have hb1 := h8.alloc (.cells #[.int .i64 1, .int .i64 0, .slice (some ⟨g2, 0, none⟩) d.length c2] 30)
  have hcv1 := RL.conv hb1 ((h9.rl (by rw [hd'.out]; exact hnb) (hdr b (clampN 2) pv1 :: SP1 :: datas rs1 :: L)).cons _)
  simp only [hd'.out] at hcv1
  have hcv2 := RL.conv hb1.drop.drop.drop.drop.drop hr'.out
  simp only [hd'.out] at hcv2
  have hcell2 := own_byte hd'.out (by rw [hd'.out] at hct2; exact hct2) k hk
  have hlt2 := h8.ltAt 0 0 rfl rfl
  have t0 : w4.cell? ⟨g2, k, none⟩ = some (.int .u8 ((d.getD k 0).toNat : Int)) := h8.cellAt 0 0 k rfl rfl hcell2
  have t1 : w4.frozen? ⟨g2, k, none⟩ = false := h8.freeAt 0 0 k rfl rfl
  have sn := run_str_neq d d
  rw [beq_self_eq_true] at sn
  have h8' := Lib.hid h8
  have h9' := Lib.hid h9
  have hct2' := Lib.hid hct2
  have hd2 : d.length = n := hd'.out
  clear h8 h9 hct2 hb1
  go_wp2_with fail
  have h10 := (((h8'.out.setCell k (.int .u8 (bits .xor .u8 ((d.getD k 0).toNat : Int) 255))).alloc (.cells #[.int .i64 1, .int .i64 0, .slice (some ⟨g2, 0, none⟩) n c2] 30)).drop).drop
  have egd : d.getD k 0 = d[k]'(by omega) := by simp [List.getD, show k < d.length by omega]
  rw [egd] at h10
  refine (dup_ok 0 h10 hn1.out (by omega) (by omega)).mono ?_
  rw [hp1'.out]
  rintro e w5 ⟨rfl, pv2, SP2, rs2, h11, h12⟩
  have hlen2 : rs2.length = 2 := by have := congrArg List.length h12.map; simpa using this
  have hmap2 := h12.map
  have hp2 : (rs2[1]'(by omega)).p = ⟨1, 0, d⟩ := by
    match rs2, hlen2 with
    | [r, r'], _ => simp at hmap2; exact hmap2.2
  have hp2' := Lib.hid hp2
  have h11' := Lib.hid h11
  have h12' := Lib.hid h12
  clear h10 egd h11 h12 hp2 hmap2
  go_wp2_with fail
  refine (cor_ok h11'.out h12'.out 1 k (by omega) (by rw [hp2'.out]; show k < d.length; omega) 1 (by decide)).mono ?_
  rw [hp2'.out]
  rintro e w6 ⟨rfl, pv3, SP3, rs3, h13, h14⟩
  have h13' := Lib.hid h13
  have h14' := Lib.hid h14
  clear h13 h14
  go_wp2_with fail
  refine (take_net h13'.out h14'.out 0 ⟨1, 0, d⟩ rfl).mono ?_
  rintro e w7 ⟨A4, c4, S4, rfl, ⟨pv4, SP4, rs4, h15, h16⟩, h17⟩
  have hb2 := h15.alloc (.cells #[.int .i64 1, .int .i64 0, .slice A4 n c4] 30)
  have h15' := Lib.hid (((hb2.pick 3 rfl).pick 3 rfl).pick 3 rfl)
  have h16' := Lib.hid h16
  have h17' := Lib.hid h17
  clear hb2 h15 h16 h17
  go_wp2_with fail
  obtain ⟨d2, hd2e⟩ : ∃ d2, d.set k (d.getD k 0 ^^^ 1) = d2 := ⟨_, rfl⟩
  have hcor : (⟨1, 0, d⟩ : Pcl).cor k 1 = ⟨1, 0, d2⟩ := by rw [← hd2e]; rfl
  have hd2l : d2.length = n := by rw [← hd2e, List.length_set]; exact hd'.out
  have hne : (d2 == d) = false := by
    rw [beq_eq_false_iff_ne]
    intro e
    have h1 : d2[k]? = some (d.getD k 0 ^^^ 1) := by rw [← hd2e, List.getElem?_set_self (by omega)]
    rw [e] at h1
    have h2 : d[k]? = some (d.getD k 0) := by simp [List.getD, show k < d.length by omega]
    rw [h2] at h1
    simp only [Option.some.injEq] at h1
    exact xor_one_ne _ h1
  have hps := h16'.out
  rw [hcor] at hps
  have hps' := Lib.hid hps
  have hd2e' := Lib.hid hd2e
  have hd2l' := Lib.hid hd2l
  have hne' := Lib.hid hne
  clear hd2e hcor hd2l hne hps h16'
  refine (take_net h15'.out hps'.out 0 ⟨1, 0, d2⟩ rfl).mono ?_
  rintro e w8 ⟨A5, c5, S5, rfl, ⟨pv5, SP5, rs5, h18, h19⟩, h20⟩
  have hb3 := h18.alloc (.cells #[.int .i64 1, .int .i64 0, .slice A5 d2.length c5] 30)
  have x0 : w8.cell? ⟨w7.heap.size, 2, none⟩ = some (.slice A4 n c4) := h18.cellAt 4 0 2 rfl rfl rfl
  have x1 := h18.ltAt 4 0 rfl rfl
  have hcv3 := RL.conv hb3.drop.drop.drop.drop.drop.drop.drop hr'.out
  have hcv4 := RL.conv (hb3.pick 6 rfl) (h17'.out.rl (by rw [hd'.out]; exact hnb) _)
  have hcv5 := RL.conv (hb3.pick 4 rfl) (h20.rl (by rw [hd2l'.out]; exact hnb) _)
  have hnetf := Lib.hid (show Net W (w8.alloc (.cells #[.int .i64 1, .int .i64 0, .slice A5 d2.length c5] 30)) L b (clampN 2) [] from
    ⟨pv5, SP5, rs5, ((((hb3.drop.pick 3 rfl).drop).pick 3 rfl).drop.pick 3 rfl).drop, h19⟩)
  rw [hd2l'.out] at hcv5 hb3 hnetf
  rw [hd'.out] at hcv4
  rw [hd2l'.out] at hcv3 hcv4
  have se := run_str_eql d d
  rw [beq_self_eq_true] at se
  have sn2 := run_str_neq d2 d
  rw [hne'.out] at sn2
  have hnt : ¬ (bstr d2).toList = (bstr d).toList := by rw [bstr_toList, bstr_toList]; exact beq_eq_false_iff_ne.1 hne'.out
  have hnt2 : ((bstr d2).toList == (bstr d).toList) = false := by rw [bstr_toList, bstr_toList]; exact hne'.out
  have hd2k : d2.length = n := hd2l'.out
  clear h18 h19 h20 hb3
  go_wp2_with fail
  refine (len_net hnetf.out).mono ?_
  rintro e w9 ⟨rfl, rfl⟩
  go_wp2_with fail
  refine (awake_true hnetf.out.h).mono ?_
  rintro e w10 ⟨rfl, hend⟩
  go_wp2_with fail
  go_ret
  exact ⟨rfl, hend⟩

set_option maxHeartbeats 400000 in
theorem keeps_empty (at_ : Int) (A : Option Addr) (cap : Nat) (h : H W w L) : Calls Try.prog 3 #[.slice A 0 cap, .int .i64 at_] w (PTrue W L) := by
  have h' := Lib.hid h
  clear h
  go_enter Try.func3, Try.ntmps3
  go_wp2_with (go_at_call 6; refine (awake_true h'.out).mono ?_; rintro e w1 ⟨rfl, h1⟩)
  go_ret
  exact ⟨rfl, h1⟩

theorem keeps_any {at_ : Int} {d : List UInt8} (h : H W w L) (hr : RL L v d) : Calls Try.prog 3 #[v, .int .i64 at_] w (PTrue W L) := by
  obtain ⟨A, cap, rfl⟩ := hr.2.form
  by_cases hd : d.length = 0
  · rw [hd]; exact keeps_empty at_ A cap h
  · have : ∃ a, A = some a := by
      rcases hr.2.2 with ⟨h0, _⟩ | ⟨b, o, c, _, _, _, hx, _⟩
      · exact absurd h0 hd
      · exact ⟨_, (by simpa using hx : _ ∧ _).1⟩
    obtain ⟨a, rfl⟩ := this
    exact keeps_walk at_ a d.length cap d h hr rfl (by omega)
end Go.Proofs.Ytggphdbifjoflaa
