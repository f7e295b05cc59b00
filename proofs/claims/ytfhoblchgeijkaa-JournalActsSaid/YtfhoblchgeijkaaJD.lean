import Derived.Test.YtfhoblchgeijkaaJC
set_option linter.unusedVariables false
set_option linter.unusedSimpArgs false
/-! part Ju -/
namespace Go.Proofs.Ytfhoblchgeijkaa
open Go.RowKit Go.Maps
variable {W w : World} {L T : List Seg} {S SO SI : Seg} {v : Value} {n : Bs} {d : AD} {b : Nat}

/-- A journal, as data. -/
structure AJ where
  recs : List Bs
  safe : Nat
  dead : Bool
def jhdr (E : TypeId) (j b : Nat) (n : Bs) (v : Value) (s : Nat) (dead : Bool) : Seg := [(j, .cells #[.pointer (some ⟨b, 0, none⟩), .string (bstr n), v, .int .i64 s, .bool dead] E (0, 0))]
/-- The program's journal at j over the disk at b. -/
def Jour (W w : World) (L : List Seg) (j b : Nat) (n : Bs) (a : AJ) (d : AD) : Prop :=
  ∃ v SO SI, Disk W w (jhdr 99 j b n v a.safe a.dead :: SO :: SI :: L) b d ∧ Rows v a.recs SO SI ∧ a.recs.length ≤ 1099511627000 ∧ a.safe ≤ 1099511627000
/-- The reference's journal at j over the reference disk at b. -/
def RJour (W w : World) (L : List Seg) (j b : Nat) (n : Bs) (a : AJ) (d : AD) : Prop :=
  ∃ v SO SI, RDisk W w (jhdr 65 j b n v a.safe a.dead :: SO :: SI :: L) b d ∧ Rows v a.recs SO SI ∧ a.recs.length ≤ 1099511627000 ∧ a.safe ≤ 1099511627000

def AD.jcut (d : AD) (n : Bs) : AD := if (parseV (d.rd n) 0 0).2 < (d.rd n).length then d.chg n (truncF ((parseV (d.rd n) 0 0).2 : Nat) n) else d
def AD.jcutE (d : AD) (n : Bs) : Int := if (parseV (d.rd n) 0 0).2 < (d.rd n).length then d.chgE n else 0
/-- Open: the disk, the error, the records. -/
def AD.jopen (d : AD) (n : Bs) : AD × Int × List Bs :=
  if d.existE n = 6 then (d, 0, []) else if d.existE n ≠ 0 then (d, d.existE n, []) else
  if d.jcutE n ≠ 0 then (d.jcut n, d.jcutE n, []) else
  if (d.jcut n).chgE n ≠ 0 then ((d.jcut n).chg n (syncF n), (d.jcut n).chgE n, []) else
  ((d.jcut n).chg n (syncF n), 0, (parseV (d.rd n) 0 0).1)

def PJOpen (W : World) (L : List Seg) (b : Nat) (n : Bs) (o : AD × Int × List Bs) (e : Ending) (w' : World) : Prop :=
  (e = .returned (.tuple #[.pointer none, .int .i64 o.2.1]) ∧ o.2.1 ≠ 0 ∧ Disk W w' L b o.1) ∨
  ∃ j, e = .returned (.tuple #[.pointer (some ⟨j, 0, none⟩), .int .i64 0]) ∧ o.2.1 = 0 ∧ Jour W w' L j b n ⟨o.2.2, o.2.2.length, false⟩ o.1
def PRJOpen (W : World) (L : List Seg) (b : Nat) (n : Bs) (o : AD × Int × List Bs) (e : Ending) (w' : World) : Prop :=
  (e = .returned (.tuple #[.pointer none, .int .i64 o.2.1]) ∧ o.2.1 ≠ 0 ∧ RDisk W w' L b o.1) ∨
  ∃ j, e = .returned (.tuple #[.pointer (some ⟨j, 0, none⟩), .int .i64 0]) ∧ o.2.1 = 0 ∧ RJour W w' L j b n ⟨o.2.2, o.2.2.length, false⟩ o.1

theorem parseV_bound (c : Bs) : ∀ (m k at' : Nat), c.length - at' ≤ m → at' ≤ c.length → 12 * (parseV c k at').1.length + at' ≤ (parseV c k at').2 ∧ (parseV c k at').2 ≤ c.length
  | m, k, at', hm, hat => by
    cases hs : stepP c k at' with
    | none => rw [parseV_none hs]; simp; omega
    | some b =>
      have h1 := stepP_len hs
      cases m with
      | zero => omega
      | succ m =>
        have := parseV_bound c m (k + 1) (at' + 12 + b.length) (by omega) (by omega)
        rw [parseV_some hs]
        simp only [List.length_cons]
        omega
theorem rd_none (h : d.existE n ≠ 0) : d.rd n = [] := by unfold AD.rd; rw [if_neg h]
theorem parseV_nil : parseV [] 0 0 = ([], 0) := parseV_none rfl
theorem existE_cases (x : Int) : x = 0 ∨ x = 6 ∨ (x ≠ 0 ∧ x ≠ 6 ∧ (x != 0) = true ∧ (x != 6) = true) := by
  by_cases h0 : x = 0
  · exact .inl h0
  · by_cases h6 : x = 6
    · exact .inr (.inl h6)
    · exact .inr (.inr ⟨h0, h6, by simpa using h0, by simpa using h6⟩)

theorem Disk.shutJ {c2 : Nat} {A2 : Option Addr} {S1 : Seg} {ls : List Bs} (h : Disk W w (SO :: SI :: S1 :: L) b d) :
    Disk W (w.alloc (.cells #[.pointer (some ⟨b, 0, none⟩), .string (bstr n), .slice A2 ls.length c2, .int .i64 (ls.length : Int), .bool false] 99)) (jhdr 99 w.heap.size b n (.slice A2 ls.length c2) ls.length false :: SO :: SI :: L) b d := by
  obtain ⟨M, SM, rs, hM, hk⟩ := h
  have h2 := (hM.pick 5 rfl).drop.alloc (.cells #[.pointer (some ⟨b, 0, none⟩), .string (bstr n), .slice A2 ls.length c2, .int .i64 (ls.length : Int), .bool false] 99)
  exact ⟨M, SM, rs, h2.re (by intro c hc h0; simp only [List.flatten_cons, List.eraseIdx, jhdr, hc]; omega), hk⟩

set_option maxRecDepth 100000 in
set_option maxHeartbeats 6400000 in
theorem open_jour (h : Disk W w L b d) (hn : n.length ≤ 1099511627776) (hc : (d.rd n).length ≤ 1099511620000) :
    Calls Try.prog 28 #[.pointer (some ⟨b, 0, none⟩), .string (bstr n)] w (PJOpen W L b n (d.jopen n)) := by
  have hread := read_disk (n := n) h (by unfold maxLen; omega)
  have hjo : ∀ o, o = d.jopen n → o = d.jopen n := fun _ h => h
  obtain ⟨o, ho⟩ : ∃ o, o = d.jopen n := ⟨_, rfl⟩
  rw [← ho]
  unfold AD.jopen AD.jcut AD.jcutE at ho
  obtain ⟨ls, m, hrd⟩ : ∃ ls m, (ls, m) = parseV (d.rd n) 0 0 := ⟨_, _, rfl⟩
  have hbd := parseV_bound (d.rd n) _ 0 0 (Nat.le_refl _) (by omega)
  have hrnil : d.existE n ≠ 0 → ls = [] ∧ m = 0 := by
    intro hx
    rw [rd_none hx, parseV_nil] at hrd
    simpa using hrd
  have hcnil : d.existE n ≠ 0 → (d.rd n).length = 0 := by intro hx; rw [rd_none hx]; rfl
  rw [← hrd] at ho hbd
  simp only at ho hbd
  obtain ⟨x, hxd⟩ : ∃ x, x = d.existE n := ⟨_, rfl⟩
  obtain ⟨c, hcd⟩ : ∃ c, c = d.rd n := ⟨_, rfl⟩
  have hcs := existE_cases x
  have hpre : PRead W L b d n = fun e w' => ∃ A cap S, e = .returned (.tuple #[.slice A c.length cap, .int .i64 x]) ∧ Disk W w' (S :: L) b d ∧ OB (.slice A c.length cap) c S := by
    rw [hcd, hxd]; rfl
  rw [hpre] at hread
  rw [← hcd] at hrd ho hbd hc hcnil
  rw [← hxd] at ho hrnil hcnil
  have hread' := Lib.hid hread
  have ho' := Lib.hid ho
  have hrd' := Lib.hid hrd
  have hxd' := Lib.hid hxd
  obtain ⟨hb1, hb2⟩ := hbd
  clear h hread hcd hxd hrd ho hjo hpre
  rcases hcs with rfl | rfl | ⟨hx1, hx2, hx3, hx4⟩
  · clear hrnil hcnil
    by_cases hm : m < c.length
    · have hmi : (m : Int) < (c.length : Int) := by omega
      obtain ⟨y, hy⟩ : ∃ y, y = d.chgE n := ⟨_, rfl⟩
      obtain ⟨d1, hd1⟩ : ∃ d1, d1 = d.chg n (truncF ((m : Nat) : Int) n) := ⟨_, rfl⟩
      obtain ⟨z, hz⟩ : ∃ z, z = d1.chgE n := ⟨_, rfl⟩
      have ho2 := ho'.out
      rw [if_neg (by omega), if_neg (by omega), if_pos hm, if_pos hm, ← hy, ← hd1, ← hz] at ho2
      have hy' := Lib.hid hy
      have hd1' := Lib.hid hd1
      have hz' := Lib.hid hz
      clear ho' hy hd1 hz hm
      by_cases hy0 : y = 0
      · have f1 : (y != 0) = false := by simpa using hy0
        rw [if_neg (by simpa using hy0)] at ho2
        clear hy0
        by_cases hz0 : z = 0
        · have f2 : (z != 0) = false := by simpa using hz0
          rw [if_neg (by simpa using hz0)] at ho2
          have ho3 := Lib.hid ho2
          clear hz0 ho2
          go_enter Try.func28, Try.ntmps28
          go_wp2_with fail
          refine hread'.out.mono ?_
          rintro e w1 ⟨A1, c1, S1, rfl, h1, o1⟩
          have h1' := Lib.hid h1
          have o1' := Lib.hid o1
          clear h1 o1 hread'
          go_wp2_with fail
          obtain ⟨M, SM, rs, hM, hk⟩ := h1'.out
          have hcap : c.length ≤ c1 := by
            obtain ⟨_, _, q1, q2⟩ := o1'.out.cap
            simp only [Value.slice.injEq] at q1
            omega
          have hpar := parse_pro hM ((((o1'.out.rs L).cons _).cons _).cons _) hcap hc
          rw [← hrd'.out] at hpar
          have hk' := Lib.hid hk
          have hpar' := Lib.hid hpar
          clear hM hk hpar hcap
          refine hpar'.out.mono ?_
          rintro e w2 ⟨A2, c2, SO, SI, rfl, h2, ro⟩
          have h2' := Lib.hid (show Disk W w2 (SO :: SI :: S1 :: L) b d from ⟨M, SM, rs, h2.re (by intro c hc h0; simp only [List.flatten_cons, hc]; omega), hk'.out⟩)
          have ro' := Lib.hid ro
          clear h2 ro hpar'
          go_wp2_with fail
          refine (trunc_disk (n := n) (m : Int) h2'.out hn).mono ?_
          rintro e w3 ⟨rfl, h3⟩
          rw [← hd1'.out] at h3
          rw [← hy'.out]
          have h3' := Lib.hid h3
          clear h3 h2'
          go_wp2_with fail
          refine (sync_disk (n := n) h3'.out hn).mono ?_
          rintro e w4 ⟨rfl, h4⟩
          rw [← hz'.out]
          have h4' := Lib.hid h4
          clear h4
          go_wp2_with fail
          go_ret2
          rw [ho3.out]
          refine .inr ⟨_, rfl, rfl, .slice A2 ls.length c2, SO, SI, ?_, ro'.out, by show ls.length ≤ _; omega, by show ls.length ≤ _; omega⟩
          exact (h4'.out).shutJ
        · have f2 : (z != 0) = true := by simpa using hz0
          rw [if_pos (by simpa using hz0)] at ho2
          have ho3 := Lib.hid ho2
          have hz0' := Lib.hid hz0
          clear hz0 ho2
          go_enter Try.func28, Try.ntmps28
          go_wp2_with fail
          refine hread'.out.mono ?_
          rintro e w1 ⟨A1, c1, S1, rfl, h1, o1⟩
          have h1' := Lib.hid h1
          have o1' := Lib.hid o1
          clear h1 o1 hread'
          go_wp2_with fail
          obtain ⟨M, SM, rs, hM, hk⟩ := h1'.out
          have hcap : c.length ≤ c1 := by
            obtain ⟨_, _, q1, q2⟩ := o1'.out.cap
            simp only [Value.slice.injEq] at q1
            omega
          have hpar := parse_pro hM ((((o1'.out.rs L).cons _).cons _).cons _) hcap hc
          rw [← hrd'.out] at hpar
          have hk' := Lib.hid hk
          have hpar' := Lib.hid hpar
          clear hM hk hpar hcap
          refine hpar'.out.mono ?_
          rintro e w2 ⟨A2, c2, SO, SI, rfl, h2, ro⟩
          have h2' := Lib.hid (show Disk W w2 (SO :: SI :: S1 :: L) b d from ⟨M, SM, rs, h2.re (by intro c hc h0; simp only [List.flatten_cons, hc]; omega), hk'.out⟩)
          have ro' := Lib.hid ro
          clear h2 ro hpar'
          go_wp2_with fail
          refine (trunc_disk (n := n) (m : Int) h2'.out hn).mono ?_
          rintro e w3 ⟨rfl, h3⟩
          rw [← hd1'.out] at h3
          rw [← hy'.out]
          have h3' := Lib.hid h3
          clear h3 h2'
          go_wp2_with fail
          refine (sync_disk (n := n) h3'.out hn).mono ?_
          rintro e w4 ⟨rfl, h4⟩
          rw [← hz'.out]
          have h4' := Lib.hid h4
          clear h4
          go_wp2_with fail
          go_ret2
          rw [ho3.out]
          exact .inl ⟨rfl, hz0'.out, h4'.out.drop.drop.drop⟩
      · have f1 : (y != 0) = true := by simpa using hy0
        rw [if_pos (by simpa using hy0)] at ho2
        have ho3 := Lib.hid ho2
        have hy0' := Lib.hid hy0
        clear hy0 ho2
        go_enter Try.func28, Try.ntmps28
        go_wp2_with fail
        refine hread'.out.mono ?_
        rintro e w1 ⟨A1, c1, S1, rfl, h1, o1⟩
        have h1' := Lib.hid h1
        have o1' := Lib.hid o1
        clear h1 o1 hread'
        go_wp2_with fail
        obtain ⟨M, SM, rs, hM, hk⟩ := h1'.out
        have hcap : c.length ≤ c1 := by
          obtain ⟨_, _, q1, q2⟩ := o1'.out.cap
          simp only [Value.slice.injEq] at q1
          omega
        have hpar := parse_pro hM ((((o1'.out.rs L).cons _).cons _).cons _) hcap hc
        rw [← hrd'.out] at hpar
        have hk' := Lib.hid hk
        have hpar' := Lib.hid hpar
        clear hM hk hpar hcap
        refine hpar'.out.mono ?_
        rintro e w2 ⟨A2, c2, SO, SI, rfl, h2, ro⟩
        have h2' := Lib.hid (show Disk W w2 (SO :: SI :: S1 :: L) b d from ⟨M, SM, rs, h2.re (by intro c hc h0; simp only [List.flatten_cons, hc]; omega), hk'.out⟩)
        have ro' := Lib.hid ro
        clear h2 ro hpar'
        go_wp2_with fail
        refine (trunc_disk (n := n) (m : Int) h2'.out hn).mono ?_
        rintro e w3 ⟨rfl, h3⟩
        rw [← hd1'.out] at h3
        rw [← hy'.out]
        have h3' := Lib.hid h3
        clear h3 h2'
        go_wp2_with fail
        go_ret2
        rw [ho3.out]
        exact .inl ⟨rfl, hy0'.out, h3'.out.drop.drop.drop⟩
    · have hmi : ¬ (m : Int) < (c.length : Int) := by omega
      obtain ⟨z, hz⟩ : ∃ z, z = d.chgE n := ⟨_, rfl⟩
      have ho2 := ho'.out
      rw [if_neg (by omega), if_neg (by omega), if_neg hm, if_neg hm, if_neg (by simp), ← hz] at ho2
      have hz' := Lib.hid hz
      clear ho' hz hm
      by_cases hz0 : z = 0
      · have f2 : (z != 0) = false := by simpa using hz0
        rw [if_neg (by simpa using hz0)] at ho2
        have ho3 := Lib.hid ho2
        clear hz0 ho2
        go_enter Try.func28, Try.ntmps28
        go_wp2_with fail
        refine hread'.out.mono ?_
        rintro e w1 ⟨A1, c1, S1, rfl, h1, o1⟩
        have h1' := Lib.hid h1
        have o1' := Lib.hid o1
        clear h1 o1 hread'
        go_wp2_with fail
        obtain ⟨M, SM, rs, hM, hk⟩ := h1'.out
        have hcap : c.length ≤ c1 := by
          obtain ⟨_, _, q1, q2⟩ := o1'.out.cap
          simp only [Value.slice.injEq] at q1
          omega
        have hpar := parse_pro hM ((((o1'.out.rs L).cons _).cons _).cons _) hcap hc
        rw [← hrd'.out] at hpar
        have hk' := Lib.hid hk
        have hpar' := Lib.hid hpar
        clear hM hk hpar hcap
        refine hpar'.out.mono ?_
        rintro e w2 ⟨A2, c2, SO, SI, rfl, h2, ro⟩
        have h2' := Lib.hid (show Disk W w2 (SO :: SI :: S1 :: L) b d from ⟨M, SM, rs, h2.re (by intro c hc h0; simp only [List.flatten_cons, hc]; omega), hk'.out⟩)
        have ro' := Lib.hid ro
        clear h2 ro hpar'
        go_wp2_with fail
        refine (sync_disk (n := n) h2'.out hn).mono ?_
        rintro e w4 ⟨rfl, h4⟩
        rw [← hz'.out]
        have h4' := Lib.hid h4
        clear h4
        go_wp2_with fail
        go_ret2
        rw [ho3.out]
        refine .inr ⟨_, rfl, rfl, .slice A2 ls.length c2, SO, SI, ?_, ro'.out, by show ls.length ≤ _; omega, by show ls.length ≤ _; omega⟩
        exact (h4'.out).shutJ
      · have f2 : (z != 0) = true := by simpa using hz0
        rw [if_pos (by simpa using hz0)] at ho2
        have ho3 := Lib.hid ho2
        have hz0' := Lib.hid hz0
        clear hz0 ho2
        go_enter Try.func28, Try.ntmps28
        go_wp2_with fail
        refine hread'.out.mono ?_
        rintro e w1 ⟨A1, c1, S1, rfl, h1, o1⟩
        have h1' := Lib.hid h1
        have o1' := Lib.hid o1
        clear h1 o1 hread'
        go_wp2_with fail
        obtain ⟨M, SM, rs, hM, hk⟩ := h1'.out
        have hcap : c.length ≤ c1 := by
          obtain ⟨_, _, q1, q2⟩ := o1'.out.cap
          simp only [Value.slice.injEq] at q1
          omega
        have hpar := parse_pro hM ((((o1'.out.rs L).cons _).cons _).cons _) hcap hc
        rw [← hrd'.out] at hpar
        have hk' := Lib.hid hk
        have hpar' := Lib.hid hpar
        clear hM hk hpar hcap
        refine hpar'.out.mono ?_
        rintro e w2 ⟨A2, c2, SO, SI, rfl, h2, ro⟩
        have h2' := Lib.hid (show Disk W w2 (SO :: SI :: S1 :: L) b d from ⟨M, SM, rs, h2.re (by intro c hc h0; simp only [List.flatten_cons, hc]; omega), hk'.out⟩)
        have ro' := Lib.hid ro
        clear h2 ro hpar'
        go_wp2_with fail
        refine (sync_disk (n := n) h2'.out hn).mono ?_
        rintro e w4 ⟨rfl, h4⟩
        rw [← hz'.out]
        have h4' := Lib.hid h4
        clear h4
        go_wp2_with fail
        go_ret2
        rw [ho3.out]
        exact .inl ⟨rfl, hz0'.out, h4'.out.drop.drop.drop⟩
  · obtain ⟨rfl, rfl⟩ := hrnil (by omega)
    have hc0 := hcnil (by omega)
    have ho2 := ho'.out
    rw [if_pos rfl] at ho2
    have ho3 := Lib.hid ho2
    have hmi : ¬ 0 < c.length := by omega
    clear hc0 ho2 ho' hrnil hcnil
    go_enter Try.func28, Try.ntmps28
    go_wp2_with fail
    refine hread'.out.mono ?_
    rintro e w1 ⟨A1, c1, S1, rfl, h1, o1⟩
    have h1' := Lib.hid h1
    have o1' := Lib.hid o1
    clear h1 o1 hread'
    go_wp2_with fail
    obtain ⟨M, SM, rs, hM, hk⟩ := h1'.out
    have hcap : c.length ≤ c1 := by
      obtain ⟨_, _, q1, q2⟩ := o1'.out.cap
      simp only [Value.slice.injEq] at q1
      omega
    have hpar := parse_pro hM ((((o1'.out.rs L).cons _).cons _).cons _) hcap hc
    rw [← hrd'.out] at hpar
    have hk' := Lib.hid hk
    have hpar' := Lib.hid hpar
    clear hM hk hpar hcap
    refine hpar'.out.mono ?_
    rintro e w2 ⟨A2, c2, SO, SI, rfl, h2, ro⟩
    have h2' := Lib.hid (show Disk W w2 (SO :: SI :: S1 :: L) b d from ⟨M, SM, rs, h2.re (by intro c hc h0; simp only [List.flatten_cons, hc]; omega), hk'.out⟩)
    have ro' := Lib.hid ro
    clear h2 ro hpar'
    go_wp2_with fail
    go_ret2
    rw [ho3.out]
    refine .inr ⟨_, rfl, rfl, .slice A2 0 c2, SO, SI, ?_, ro'.out, by simp, by simp⟩
    exact h2'.out.shutJ (ls := [])
  · have ho2 := ho'.out
    rw [if_neg hx2, if_pos hx1] at ho2
    have ho3 := Lib.hid ho2
    have hx1' := Lib.hid hx1
    clear ho2 ho' hrnil hcnil hx1 hx2
    go_enter Try.func28, Try.ntmps28
    go_wp2_with fail
    refine hread'.out.mono ?_
    rintro e w1 ⟨A1, c1, S1, rfl, h1, o1⟩
    have h1' := Lib.hid h1
    have o1' := Lib.hid o1
    clear h1 o1 hread'
    go_wp2_with fail
    go_ret2
    rw [ho3.out]
    exact .inl ⟨rfl, hx1'.out, h1'.out.drop⟩

theorem RDisk.shutJ {c2 : Nat} {A2 : Option Addr} {S1 : Seg} {ls : List Bs} (h : RDisk W w (SO :: SI :: S1 :: L) b d) :
    RDisk W (w.alloc (.cells #[.pointer (some ⟨b, 0, none⟩), .string (bstr n), .slice A2 ls.length c2, .int .i64 (ls.length : Int), .bool false] 65)) (jhdr 65 w.heap.size b n (.slice A2 ls.length c2) ls.length false :: SO :: SI :: L) b d := by
  obtain ⟨M, SM, rs, hM, hk⟩ := h
  have h2 := (hM.pick 5 rfl).drop.alloc (.cells #[.pointer (some ⟨b, 0, none⟩), .string (bstr n), .slice A2 ls.length c2, .int .i64 (ls.length : Int), .bool false] 65)
  exact ⟨M, SM, rs, h2.re (by intro c hc h0; simp only [List.flatten_cons, List.eraseIdx, jhdr, hc]; omega), hk⟩

set_option maxRecDepth 100000 in
set_option maxHeartbeats 6400000 in
theorem ropen_jour (h : RDisk W w L b d) (hn : n.length ≤ 1099511627776) (hc : (d.rd n).length ≤ 1099511620000) :
    Calls Try.prog 29 #[.pointer (some ⟨b, 0, none⟩), .string (bstr n)] w (PRJOpen W L b n (d.jopen n)) := by
  have hread := rread_disk (n := n) h
  have hjo : ∀ o, o = d.jopen n → o = d.jopen n := fun _ h => h
  obtain ⟨o, ho⟩ : ∃ o, o = d.jopen n := ⟨_, rfl⟩
  rw [← ho]
  unfold AD.jopen AD.jcut AD.jcutE at ho
  obtain ⟨ls, m, hrd⟩ : ∃ ls m, (ls, m) = parseV (d.rd n) 0 0 := ⟨_, _, rfl⟩
  have hbd := parseV_bound (d.rd n) _ 0 0 (Nat.le_refl _) (by omega)
  have hrnil : d.existE n ≠ 0 → ls = [] ∧ m = 0 := by
    intro hx
    rw [rd_none hx, parseV_nil] at hrd
    simpa using hrd
  have hcnil : d.existE n ≠ 0 → (d.rd n).length = 0 := by intro hx; rw [rd_none hx]; rfl
  rw [← hrd] at ho hbd
  simp only at ho hbd
  obtain ⟨x, hxd⟩ : ∃ x, x = d.existE n := ⟨_, rfl⟩
  obtain ⟨c, hcd⟩ : ∃ c, c = d.rd n := ⟨_, rfl⟩
  have hcs := existE_cases x
  have hpre : PRRead W L b d n = fun e w' => ∃ A cap S, e = .returned (.tuple #[.slice A c.length cap, .int .i64 x]) ∧ RDisk W w' (S :: L) b d ∧ OB (.slice A c.length cap) c S := by
    rw [hcd, hxd]; rfl
  rw [hpre] at hread
  rw [← hcd] at hrd ho hbd hc hcnil
  rw [← hxd] at ho hrnil hcnil
  have hread' := Lib.hid hread
  have ho' := Lib.hid ho
  have hrd' := Lib.hid hrd
  have hxd' := Lib.hid hxd
  obtain ⟨hb1, hb2⟩ := hbd
  clear h hread hcd hxd hrd ho hjo hpre
  rcases hcs with rfl | rfl | ⟨hx1, hx2, hx3, hx4⟩
  · clear hrnil hcnil
    by_cases hm : m < c.length
    · have hmi : (m : Int) < (c.length : Int) := by omega
      obtain ⟨y, hy⟩ : ∃ y, y = d.chgE n := ⟨_, rfl⟩
      obtain ⟨d1, hd1⟩ : ∃ d1, d1 = d.chg n (truncF ((m : Nat) : Int) n) := ⟨_, rfl⟩
      obtain ⟨z, hz⟩ : ∃ z, z = d1.chgE n := ⟨_, rfl⟩
      have ho2 := ho'.out
      rw [if_neg (by omega), if_neg (by omega), if_pos hm, if_pos hm, ← hy, ← hd1, ← hz] at ho2
      have hy' := Lib.hid hy
      have hd1' := Lib.hid hd1
      have hz' := Lib.hid hz
      clear ho' hy hd1 hz hm
      by_cases hy0 : y = 0
      · have f1 : (y != 0) = false := by simpa using hy0
        rw [if_neg (by simpa using hy0)] at ho2
        clear hy0
        by_cases hz0 : z = 0
        · have f2 : (z != 0) = false := by simpa using hz0
          rw [if_neg (by simpa using hz0)] at ho2
          have ho3 := Lib.hid ho2
          clear hz0 ho2
          go_enter Try.func29, Try.ntmps29
          go_wp2_with fail
          refine hread'.out.mono ?_
          rintro e w1 ⟨A1, c1, S1, rfl, h1, o1⟩
          have h1' := Lib.hid h1
          have o1' := Lib.hid o1
          clear h1 o1 hread'
          go_wp2_with fail
          obtain ⟨M, SM, rs, hM, hk⟩ := h1'.out
          have hcap : c.length ≤ c1 := by
            obtain ⟨_, _, q1, q2⟩ := o1'.out.cap
            simp only [Value.slice.injEq] at q1
            omega
          have hpar := parse_ref hM ((((o1'.out.rs L).cons _).cons _).cons _) hcap hc
          rw [← hrd'.out] at hpar
          have hk' := Lib.hid hk
          have hpar' := Lib.hid hpar
          clear hM hk hpar hcap
          refine hpar'.out.mono ?_
          rintro e w2 ⟨A2, c2, SO, SI, rfl, h2, ro⟩
          have h2' := Lib.hid (show RDisk W w2 (SO :: SI :: S1 :: L) b d from ⟨M, SM, rs, h2.re (by intro c hc h0; simp only [List.flatten_cons, hc]; omega), hk'.out⟩)
          have ro' := Lib.hid ro
          clear h2 ro hpar'
          go_wp2_with fail
          refine (rtrunc_disk (n := n) (m : Int) h2'.out).mono ?_
          rintro e w3 ⟨rfl, h3⟩
          rw [← hd1'.out] at h3
          rw [← hy'.out]
          have h3' := Lib.hid h3
          clear h3 h2'
          go_wp2_with fail
          refine (rsync_disk (n := n) h3'.out).mono ?_
          rintro e w4 ⟨rfl, h4⟩
          rw [← hz'.out]
          have h4' := Lib.hid h4
          clear h4
          go_wp2_with fail
          go_ret2
          rw [ho3.out]
          refine .inr ⟨_, rfl, rfl, .slice A2 ls.length c2, SO, SI, ?_, ro'.out, by show ls.length ≤ _; omega, by show ls.length ≤ _; omega⟩
          exact (h4'.out).shutJ
        · have f2 : (z != 0) = true := by simpa using hz0
          rw [if_pos (by simpa using hz0)] at ho2
          have ho3 := Lib.hid ho2
          have hz0' := Lib.hid hz0
          clear hz0 ho2
          go_enter Try.func29, Try.ntmps29
          go_wp2_with fail
          refine hread'.out.mono ?_
          rintro e w1 ⟨A1, c1, S1, rfl, h1, o1⟩
          have h1' := Lib.hid h1
          have o1' := Lib.hid o1
          clear h1 o1 hread'
          go_wp2_with fail
          obtain ⟨M, SM, rs, hM, hk⟩ := h1'.out
          have hcap : c.length ≤ c1 := by
            obtain ⟨_, _, q1, q2⟩ := o1'.out.cap
            simp only [Value.slice.injEq] at q1
            omega
          have hpar := parse_ref hM ((((o1'.out.rs L).cons _).cons _).cons _) hcap hc
          rw [← hrd'.out] at hpar
          have hk' := Lib.hid hk
          have hpar' := Lib.hid hpar
          clear hM hk hpar hcap
          refine hpar'.out.mono ?_
          rintro e w2 ⟨A2, c2, SO, SI, rfl, h2, ro⟩
          have h2' := Lib.hid (show RDisk W w2 (SO :: SI :: S1 :: L) b d from ⟨M, SM, rs, h2.re (by intro c hc h0; simp only [List.flatten_cons, hc]; omega), hk'.out⟩)
          have ro' := Lib.hid ro
          clear h2 ro hpar'
          go_wp2_with fail
          refine (rtrunc_disk (n := n) (m : Int) h2'.out).mono ?_
          rintro e w3 ⟨rfl, h3⟩
          rw [← hd1'.out] at h3
          rw [← hy'.out]
          have h3' := Lib.hid h3
          clear h3 h2'
          go_wp2_with fail
          refine (rsync_disk (n := n) h3'.out).mono ?_
          rintro e w4 ⟨rfl, h4⟩
          rw [← hz'.out]
          have h4' := Lib.hid h4
          clear h4
          go_wp2_with fail
          go_ret2
          rw [ho3.out]
          exact .inl ⟨rfl, hz0'.out, h4'.out.drop.drop.drop⟩
      · have f1 : (y != 0) = true := by simpa using hy0
        rw [if_pos (by simpa using hy0)] at ho2
        have ho3 := Lib.hid ho2
        have hy0' := Lib.hid hy0
        clear hy0 ho2
        go_enter Try.func29, Try.ntmps29
        go_wp2_with fail
        refine hread'.out.mono ?_
        rintro e w1 ⟨A1, c1, S1, rfl, h1, o1⟩
        have h1' := Lib.hid h1
        have o1' := Lib.hid o1
        clear h1 o1 hread'
        go_wp2_with fail
        obtain ⟨M, SM, rs, hM, hk⟩ := h1'.out
        have hcap : c.length ≤ c1 := by
          obtain ⟨_, _, q1, q2⟩ := o1'.out.cap
          simp only [Value.slice.injEq] at q1
          omega
        have hpar := parse_ref hM ((((o1'.out.rs L).cons _).cons _).cons _) hcap hc
        rw [← hrd'.out] at hpar
        have hk' := Lib.hid hk
        have hpar' := Lib.hid hpar
        clear hM hk hpar hcap
        refine hpar'.out.mono ?_
        rintro e w2 ⟨A2, c2, SO, SI, rfl, h2, ro⟩
        have h2' := Lib.hid (show RDisk W w2 (SO :: SI :: S1 :: L) b d from ⟨M, SM, rs, h2.re (by intro c hc h0; simp only [List.flatten_cons, hc]; omega), hk'.out⟩)
        have ro' := Lib.hid ro
        clear h2 ro hpar'
        go_wp2_with fail
        refine (rtrunc_disk (n := n) (m : Int) h2'.out).mono ?_
        rintro e w3 ⟨rfl, h3⟩
        rw [← hd1'.out] at h3
        rw [← hy'.out]
        have h3' := Lib.hid h3
        clear h3 h2'
        go_wp2_with fail
        go_ret2
        rw [ho3.out]
        exact .inl ⟨rfl, hy0'.out, h3'.out.drop.drop.drop⟩
    · have hmi : ¬ (m : Int) < (c.length : Int) := by omega
      obtain ⟨z, hz⟩ : ∃ z, z = d.chgE n := ⟨_, rfl⟩
      have ho2 := ho'.out
      rw [if_neg (by omega), if_neg (by omega), if_neg hm, if_neg hm, if_neg (by simp), ← hz] at ho2
      have hz' := Lib.hid hz
      clear ho' hz hm
      by_cases hz0 : z = 0
      · have f2 : (z != 0) = false := by simpa using hz0
        rw [if_neg (by simpa using hz0)] at ho2
        have ho3 := Lib.hid ho2
        clear hz0 ho2
        go_enter Try.func29, Try.ntmps29
        go_wp2_with fail
        refine hread'.out.mono ?_
        rintro e w1 ⟨A1, c1, S1, rfl, h1, o1⟩
        have h1' := Lib.hid h1
        have o1' := Lib.hid o1
        clear h1 o1 hread'
        go_wp2_with fail
        obtain ⟨M, SM, rs, hM, hk⟩ := h1'.out
        have hcap : c.length ≤ c1 := by
          obtain ⟨_, _, q1, q2⟩ := o1'.out.cap
          simp only [Value.slice.injEq] at q1
          omega
        have hpar := parse_ref hM ((((o1'.out.rs L).cons _).cons _).cons _) hcap hc
        rw [← hrd'.out] at hpar
        have hk' := Lib.hid hk
        have hpar' := Lib.hid hpar
        clear hM hk hpar hcap
        refine hpar'.out.mono ?_
        rintro e w2 ⟨A2, c2, SO, SI, rfl, h2, ro⟩
        have h2' := Lib.hid (show RDisk W w2 (SO :: SI :: S1 :: L) b d from ⟨M, SM, rs, h2.re (by intro c hc h0; simp only [List.flatten_cons, hc]; omega), hk'.out⟩)
        have ro' := Lib.hid ro
        clear h2 ro hpar'
        go_wp2_with fail
        refine (rsync_disk (n := n) h2'.out).mono ?_
        rintro e w4 ⟨rfl, h4⟩
        rw [← hz'.out]
        have h4' := Lib.hid h4
        clear h4
        go_wp2_with fail
        go_ret2
        rw [ho3.out]
        refine .inr ⟨_, rfl, rfl, .slice A2 ls.length c2, SO, SI, ?_, ro'.out, by show ls.length ≤ _; omega, by show ls.length ≤ _; omega⟩
        exact (h4'.out).shutJ
      · have f2 : (z != 0) = true := by simpa using hz0
        rw [if_pos (by simpa using hz0)] at ho2
        have ho3 := Lib.hid ho2
        have hz0' := Lib.hid hz0
        clear hz0 ho2
        go_enter Try.func29, Try.ntmps29
        go_wp2_with fail
        refine hread'.out.mono ?_
        rintro e w1 ⟨A1, c1, S1, rfl, h1, o1⟩
        have h1' := Lib.hid h1
        have o1' := Lib.hid o1
        clear h1 o1 hread'
        go_wp2_with fail
        obtain ⟨M, SM, rs, hM, hk⟩ := h1'.out
        have hcap : c.length ≤ c1 := by
          obtain ⟨_, _, q1, q2⟩ := o1'.out.cap
          simp only [Value.slice.injEq] at q1
          omega
        have hpar := parse_ref hM ((((o1'.out.rs L).cons _).cons _).cons _) hcap hc
        rw [← hrd'.out] at hpar
        have hk' := Lib.hid hk
        have hpar' := Lib.hid hpar
        clear hM hk hpar hcap
        refine hpar'.out.mono ?_
        rintro e w2 ⟨A2, c2, SO, SI, rfl, h2, ro⟩
        have h2' := Lib.hid (show RDisk W w2 (SO :: SI :: S1 :: L) b d from ⟨M, SM, rs, h2.re (by intro c hc h0; simp only [List.flatten_cons, hc]; omega), hk'.out⟩)
        have ro' := Lib.hid ro
        clear h2 ro hpar'
        go_wp2_with fail
        refine (rsync_disk (n := n) h2'.out).mono ?_
        rintro e w4 ⟨rfl, h4⟩
        rw [← hz'.out]
        have h4' := Lib.hid h4
        clear h4
        go_wp2_with fail
        go_ret2
        rw [ho3.out]
        exact .inl ⟨rfl, hz0'.out, h4'.out.drop.drop.drop⟩
  · obtain ⟨rfl, rfl⟩ := hrnil (by omega)
    have hc0 := hcnil (by omega)
    have ho2 := ho'.out
    rw [if_pos rfl] at ho2
    have ho3 := Lib.hid ho2
    have hmi : ¬ 0 < c.length := by omega
    clear hc0 ho2 ho' hrnil hcnil
    go_enter Try.func29, Try.ntmps29
    go_wp2_with fail
    refine hread'.out.mono ?_
    rintro e w1 ⟨A1, c1, S1, rfl, h1, o1⟩
    have h1' := Lib.hid h1
    have o1' := Lib.hid o1
    clear h1 o1 hread'
    go_wp2_with fail
    obtain ⟨M, SM, rs, hM, hk⟩ := h1'.out
    have hcap : c.length ≤ c1 := by
      obtain ⟨_, _, q1, q2⟩ := o1'.out.cap
      simp only [Value.slice.injEq] at q1
      omega
    have hpar := parse_ref hM ((((o1'.out.rs L).cons _).cons _).cons _) hcap hc
    rw [← hrd'.out] at hpar
    have hk' := Lib.hid hk
    have hpar' := Lib.hid hpar
    clear hM hk hpar hcap
    refine hpar'.out.mono ?_
    rintro e w2 ⟨A2, c2, SO, SI, rfl, h2, ro⟩
    have h2' := Lib.hid (show RDisk W w2 (SO :: SI :: S1 :: L) b d from ⟨M, SM, rs, h2.re (by intro c hc h0; simp only [List.flatten_cons, hc]; omega), hk'.out⟩)
    have ro' := Lib.hid ro
    clear h2 ro hpar'
    go_wp2_with fail
    go_ret2
    rw [ho3.out]
    refine .inr ⟨_, rfl, rfl, .slice A2 0 c2, SO, SI, ?_, ro'.out, by simp, by simp⟩
    exact h2'.out.shutJ (ls := [])
  · have ho2 := ho'.out
    rw [if_neg hx2, if_pos hx1] at ho2
    have ho3 := Lib.hid ho2
    have hx1' := Lib.hid hx1
    clear ho2 ho' hrnil hcnil hx1 hx2
    go_enter Try.func29, Try.ntmps29
    go_wp2_with fail
    refine hread'.out.mono ?_
    rintro e w1 ⟨A1, c1, S1, rfl, h1, o1⟩
    have h1' := Lib.hid h1
    have o1' := Lib.hid o1
    clear h1 o1 hread'
    go_wp2_with fail
    go_ret2
    rw [ho3.out]
    exact .inl ⟨rfl, hx1'.out, h1'.out.drop⟩
end Go.Proofs.Ytfhoblchgeijkaa

/-! part Jv -/
namespace Go.Proofs.Ytfhoblchgeijkaa
open Go.RowKit Go.Maps
variable {W w : World} {L T : List Seg} {S SO SI : Seg} {v : Value} {n l : Bs} {d : AD} {b j : Nat} {a : AJ}

theorem frame_proN (k : Nat) {A : Option Addr} {c : Nat} {l : List UInt8} (h : H W w L) (hr : RS L 1 (.slice A l.length c) l.length (u8s l)) (hl : l.length ≤ 1099511620000) (hk : k < 9223372036854775808) :
    Calls Try.prog 56 #[.int .i64 (k : Int), .slice A l.length c] w (PBytes W L (frameV (UInt64.ofNat k) l).length (u8s (frameV (UInt64.ofNat k) l))) := by
  have e := ofNat_toNat k hk
  rw [← e]
  exact frame_pro _ h hr hl (by omega)
theorem frame_refN (k : Nat) {A : Option Addr} {c : Nat} {l : List UInt8} (h : H W w L) (hr : RS L 1 (.slice A l.length c) l.length (u8s l)) (hl : l.length ≤ 1099511620000) (hk : k < 9223372036854775808) :
    Calls Try.prog 63 #[.int .i64 (k : Int), .slice A l.length c] w (PBytes W L (frameV (UInt64.ofNat k) l).length (u8s (frameV (UInt64.ofNat k) l))) := by
  have e := ofNat_toNat k hk
  rw [← e]
  exact frame_ref _ h hr hl (by omega)

set_option maxRecDepth 100000 in
set_option maxHeartbeats 1600000 in
/-- note(e) -/
theorem note_any (y : Int) {s : Nat} {dead : Bool} (h : H W w (jhdr 99 j b n v s dead :: T)) :
    Calls Try.prog 62 #[.pointer (some ⟨j, 0, none⟩), .int .i64 y] w (PErr y fun w' => H W w' (jhdr 99 j b n v s (dead || (y != 0 && y != 1)) :: T)) := by
  have c4 : w.cell? ⟨j, 4, none⟩ = some (.bool dead) := h.cellAt 0 0 4 rfl rfl rfl
  have f4 : w.frozen? ⟨j, 4, none⟩ = false := h.freeAt 0 0 4 rfl rfl
  have h' := Lib.hid h
  clear h
  obtain ⟨b1, e1⟩ : ∃ b1, (y != 0) = b1 := ⟨_, rfl⟩
  obtain ⟨b2, e2⟩ : ∃ b2, (y != 1) = b2 := ⟨_, rfl⟩
  rw [e1, e2]
  cases dead <;> cases b1 <;> cases b2 <;>
  · go_enter Try.func62, Try.ntmps62
    go_wp2_with fail
    go_ret
    exact ⟨rfl, h'.out.setCell 4 _⟩

/-- Append: the error, the journal, the disk. -/
def AJ.appE (a : AJ) (d : AD) (n l : Bs) : Int := if 65536 < l.length then 1 else if a.dead = true then 103 else d.appE n
def AJ.app (a : AJ) (d : AD) (n l : Bs) : AJ := if 65536 < l.length then a else if a.dead = true then a else if d.appE n = 0 then ⟨a.recs ++ [l], a.safe, false⟩ else ⟨a.recs, a.safe, true⟩
def AJ.appD (a : AJ) (d : AD) (n l : Bs) : AD := if 65536 < l.length then d else if a.dead = true then d else d.app n (frameV (UInt64.ofNat a.recs.length) l)
theorem appE_cases {d : AD} {n : Bs} (hn : n ≠ []) : d.appE n = 0 ∨ d.appE n = 103 := by
  unfold AD.appE AD.openE
  rw [if_neg hn]
  by_cases h1 : d.off = true
  · simp [h1]
  · cases h2 : d.writes <;> simp [h1]
theorem chgE_cases {d : AD} {n : Bs} (hn : n ≠ []) : d.chgE n = 0 ∨ d.chgE n = 103 ∨ d.chgE n = 6 := by
  unfold AD.chgE AD.existE
  rw [if_neg hn]
  by_cases h1 : d.off = true
  · simp [h1]
  · cases h3 : (d.find n).isNone <;> cases h2 : d.writes <;> simp [h1]

def PJ (k : Int) (W : World) (L : List Seg) (j b : Nat) (n : Bs) (a : AJ) (d : AD) (e : Ending) (w' : World) : Prop := e = .returned (.int .i64 k) ∧ Jour W w' L j b n a d

theorem Jour.cells (h : Jour W w L j b n a d) : ∃ A c, w.cell? ⟨j, 0, none⟩ = some (.pointer (some ⟨b, 0, none⟩)) ∧ w.cell? ⟨j, 1, none⟩ = some (.string (bstr n)) ∧ w.cell? ⟨j, 2, none⟩ = some (.slice A a.recs.length c) ∧ w.cell? ⟨j, 3, none⟩ = some (.int .i64 a.safe) ∧ w.cell? ⟨j, 4, none⟩ = some (.bool a.dead) := by
  obtain ⟨v, SO, SI, ⟨M, SM, rs, h1, h2⟩, h3, h4⟩ := h
  obtain ⟨A, c, rfl, _⟩ := h3.cap
  exact ⟨A, c, h1.cellAt 3 0 0 rfl rfl rfl, h1.cellAt 3 0 1 rfl rfl rfl, h1.cellAt 3 0 2 rfl rfl rfl, h1.cellAt 3 0 3 rfl rfl rfl, h1.cellAt 3 0 4 rfl rfl rfl⟩

set_option maxRecDepth 100000 in
set_option maxHeartbeats 6400000 in
theorem append_jour {A : Option Addr} {c : Nat} (h : Jour W w L j b n a d) (hr : RS L 1 (.slice A l.length c) l.length (u8s l)) (hn0 : n ≠ []) (hn : n.length ≤ 1099511627776) (hl : l.length ≤ 1099511620000)
    (hroom : d.room (12 + l.length)) (hfl : d.fs.length < 1099511627776) (hN : a.recs.length < 1099511627000) :
    Calls Try.prog 30 #[.pointer (some ⟨j, 0, none⟩), .slice A l.length c] w (PJ (a.appE d n l) W L j b n (a.app d n l) (a.appD d n l)) := by
  by_cases hbig : 65536 < l.length
  · have e1 : a.appE d n l = 1 := by unfold AJ.appE; rw [if_pos hbig]
    have e2 : a.app d n l = a := by unfold AJ.app; rw [if_pos hbig]
    have e3 : a.appD d n l = d := by unfold AJ.appD; rw [if_pos hbig]
    rw [e1, e2, e3]
    obtain ⟨A1, c1, k0, k1, k2, k3, k4⟩ := h.cells
    have hbi : (65536 : Int) < (l.length : Int) := by omega
    have h' := Lib.hid h
    clear h hr e1 e2 e3 hbig
    go_enter Try.func30, Try.ntmps30
    go_wp2_with fail
    go_ret
    exact ⟨rfl, h'.out⟩
  by_cases hdead : a.dead = true
  · have e1 : a.appE d n l = 103 := by unfold AJ.appE; rw [if_neg hbig, if_pos hdead]
    have e2 : a.app d n l = a := by unfold AJ.app; rw [if_neg hbig, if_pos hdead]
    have e3 : a.appD d n l = d := by unfold AJ.appD; rw [if_neg hbig, if_pos hdead]
    rw [e1, e2, e3]
    obtain ⟨A1, c1, k0, k1, k2, k3, k4⟩ := h.cells
    rw [hdead] at k4
    have hbi : ¬ (65536 : Int) < (l.length : Int) := by omega
    have h' := Lib.hid h
    clear h hr e1 e2 e3 hbig hdead
    go_enter Try.func30, Try.ntmps30
    go_wp2_with fail
    go_ret
    exact ⟨rfl, h'.out⟩
  obtain ⟨recs, s, dead⟩ := a
  obtain rfl : dead = false := by simpa using hdead
  obtain ⟨y, hy⟩ : ∃ y, y = d.appE n := ⟨_, rfl⟩
  obtain ⟨N, hNd⟩ : ∃ N, N = recs.length := ⟨_, rfl⟩
  have e1 : AJ.appE ⟨recs, s, false⟩ d n l = y := by unfold AJ.appE; rw [if_neg hbig, if_neg (by simp), hy]
  have e2 : AJ.app ⟨recs, s, false⟩ d n l = if y = 0 then ⟨recs ++ [l], s, false⟩ else ⟨recs, s, true⟩ := by unfold AJ.app; rw [if_neg hbig, if_neg (by simp), hy]
  have e3 : AJ.appD ⟨recs, s, false⟩ d n l = d.app n (frameV (UInt64.ofNat N) l) := by unfold AJ.appD; rw [if_neg hbig, if_neg (by simp), hNd]
  rw [e1, e2, e3]
  obtain ⟨v, SO, SI, hD, hro, hb1, hb2⟩ := h
  simp only at hD hro hb1 hb2
  obtain ⟨A1, c1, rfl, hcap⟩ := hro.cap
  rw [← hNd] at hD hro hcap
  have hy2 : y = 0 ∨ y = 103 := by rw [hy]; exact appE_cases hn0
  have hN2 : N < 1099511627000 := by rw [hNd]; exact hN
  have hbi : ¬ (65536 : Int) < (l.length : Int) := by omega
  obtain ⟨M, SM, rs, hM, hk⟩ := hD
  have hM' := Lib.hid hM
  have hk' := Lib.hid hk
  have hro' := Lib.hid hro
  have hr' := Lib.hid hr
  have hy' := Lib.hid hy
  have hNd' := Lib.hid hNd
  have k0 : w.cell? ⟨j, 0, none⟩ = some (.pointer (some ⟨b, 0, none⟩)) := hM.cellAt 3 0 0 rfl rfl rfl
  have k4 : w.cell? ⟨j, 4, none⟩ = some (.bool false) := hM.cellAt 3 0 4 rfl rfl rfl
  clear hM hk hro hr hy hNd hN hb1 hdead e1 e2 e3 hbig
  rcases hy2 with rfl | rfl
  · rw [if_pos rfl]
    obtain ⟨xs, hxs, hsn⟩ := hro'.out.more
    rw [← hNd'.out] at hxs hsn
    have hxs := Lib.hid hxs
    have hsn := Lib.hid hsn
    go_enter Try.func30, Try.ntmps30
    go_wp2_with fail
    refine wpF_start (S := (fun w' => w'.cell? ⟨j, 0, none⟩ = some (.pointer (some ⟨b, 0, none⟩)) ∧ w'.cell? ⟨j, 1, none⟩ = some (.string (bstr n)) ∧ w'.cell? ⟨j, 2, none⟩ = some (.slice A1 N c1))) (fins := []) (by kernel_rfl) ?_ (fun hHeld => ?_)
    · exact ⟨hM'.out.drew.cellAt 3 0 0 rfl rfl rfl, hM'.out.drew.cellAt 3 0 1 rfl rfl rfl, hM'.out.drew.cellAt 3 0 2 rfl rfl rfl⟩
    refine wpF_take 0 (v := ?_) hHeld (by simp only [List.getElem?_toArray, List.getElem?_cons_zero]; exact rfl) (by kernel_rfl) (by exact fun _ _ _ h => h) (by rfl) ?_ ?_
    rotate_left
    · (intro w hSw; (try dsimp only at hSw); go_simp; try with_reducible rfl)
    try simp only [Act.put, List.setIfInBounds_toArray, List.set_cons_zero, List.set_cons_succ]
    refine wpF_take 1 (v := ?_) hHeld (by simp only [List.getElem?_toArray, List.getElem?_cons_succ, List.getElem?_cons_zero]; exact rfl) (by kernel_rfl) (by exact fun _ _ _ h => h) (by rfl) ?_ ?_
    rotate_left
    · (intro w hSw; (try dsimp only at hSw); go_simp; try with_reducible rfl)
    try simp only [Act.put, List.setIfInBounds_toArray, List.set_cons_zero, List.set_cons_succ]
    refine wpF_take 2 (v := ?_) hHeld (by simp only [List.getElem?_toArray, List.getElem?_cons_succ, List.getElem?_cons_zero]; exact rfl) (by kernel_rfl) (by exact fun _ _ _ h => h) (by rfl) ?_ ?_
    rotate_left
    · (intro w hSw; (try dsimp only at hSw); go_simp; try with_reducible rfl)
    try simp only [Act.put, List.setIfInBounds_toArray, List.set_cons_zero, List.set_cons_succ]
    refine wpF_take 3 (v := ?_) hHeld (by simp only [List.getElem?_toArray, List.getElem?_cons_succ, List.getElem?_cons_zero]; exact rfl) (by kernel_rfl) (by exact fun _ _ _ h => h) (by rfl) ?_ ?_
    rotate_left
    · (intro w hSw; (try dsimp only at hSw); go_simp; try with_reducible rfl)
    try simp only [Act.put, List.setIfInBounds_toArray, List.set_cons_zero, List.set_cons_succ]
    refine wpF_take 4 (v := ?_) hHeld (by simp only [List.getElem?_toArray, List.getElem?_cons_succ, List.getElem?_cons_zero]; exact rfl) (by kernel_rfl) (by exact fun _ _ _ h => h) (by rfl) ?_ ?_
    rotate_left
    · (intro w hSw; (try dsimp only at hSw); go_simp; try with_reducible rfl)
    try simp only [Act.put, List.setIfInBounds_toArray, List.set_cons_zero, List.set_cons_succ]
    refine wpF_take 5 (v := ?_) hHeld (by simp only [List.getElem?_toArray, List.getElem?_cons_succ, List.getElem?_cons_zero]; exact rfl) (by kernel_rfl) (by exact fun _ _ _ h => h) (by rfl) ?_ ?_
    rotate_left
    · (intro w hSw; (try dsimp only at hSw); go_simp; try with_reducible rfl)
    try simp only [Act.put, List.setIfInBounds_toArray, List.set_cons_zero, List.set_cons_succ]
    refine wpF_take 6 (v := ?_) hHeld (by simp only [List.getElem?_toArray, List.getElem?_cons_succ, List.getElem?_cons_zero]; exact rfl) (by kernel_rfl) (by exact fun _ _ _ h => h) (by rfl) ?_ ?_
    rotate_left
    · (intro w hSw; (try dsimp only at hSw); go_simp; try with_reducible rfl)
    try simp only [Act.put, List.setIfInBounds_toArray, List.set_cons_zero, List.set_cons_succ]
    refine wpF_take 7 (v := ?_) hHeld (by simp only [List.getElem?_toArray, List.getElem?_cons_succ, List.getElem?_cons_zero]; exact rfl) (by kernel_rfl) (by exact fun _ _ _ h => h) (by rfl) ?_ ?_
    rotate_left
    · (intro w hSw; (try dsimp only at hSw); go_simp; try with_reducible rfl)
    try simp only [Act.put, List.setIfInBounds_toArray, List.set_cons_zero, List.set_cons_succ]
    refine wpF_take 8 (v := ?_) hHeld (by simp only [List.getElem?_toArray, List.getElem?_cons_succ, List.getElem?_cons_zero]; exact rfl) (by kernel_rfl) (by exact fun _ _ _ h => h) (by rfl) ?_ ?_
    rotate_left
    · (intro w hSw; (try dsimp only at hSw); go_simp; try with_reducible rfl)
    try simp only [Act.put, List.setIfInBounds_toArray, List.set_cons_zero, List.set_cons_succ]
    refine wpF_take 9 (v := ?_) hHeld (by simp only [List.getElem?_toArray, List.getElem?_cons_succ, List.getElem?_cons_zero]; exact rfl) (by kernel_rfl) (by exact fun _ _ _ h => h) (by rfl) ?_ ?_
    rotate_left
    · (intro w hSw; (try dsimp only at hSw); go_simp; try with_reducible rfl)
    try simp only [Act.put, List.setIfInBounds_toArray, List.set_cons_zero, List.set_cons_succ]
    refine wpF_take 10 (v := ?_) hHeld (by simp only [List.getElem?_toArray, List.getElem?_cons_succ, List.getElem?_cons_zero]; exact rfl) (by kernel_rfl) (by exact fun _ _ _ h => h) (by rfl) ?_ ?_
    rotate_left
    · (intro w hSw; (try dsimp only at hSw); go_simp; try with_reducible rfl)
    try simp only [Act.put, List.setIfInBounds_toArray, List.set_cons_zero, List.set_cons_succ]
    refine wpF_take 11 (v := ?_) hHeld (by simp only [List.getElem?_toArray, List.getElem?_cons_succ, List.getElem?_cons_zero]; exact rfl) (by kernel_rfl) (by exact fun _ _ _ h => h) (by rfl) ?_ ?_
    rotate_left
    · (intro w hSw; (try dsimp only at hSw); go_simp; try with_reducible rfl)
    try simp only [Act.put, List.setIfInBounds_toArray, List.set_cons_zero, List.set_cons_succ]
    refine wpF_take 12 (v := ?_) hHeld (by simp only [List.getElem?_toArray, List.getElem?_cons_succ, List.getElem?_cons_zero]; exact rfl) (by kernel_rfl) (by exact fun _ _ _ h => h) (by rfl) ?_ ?_
    rotate_left
    · (intro w hSw; (try dsimp only at hSw); go_simp; try with_reducible rfl)
    try simp only [Act.put, List.setIfInBounds_toArray, List.set_cons_zero, List.set_cons_succ]
    refine wpF_take 13 (v := ?_) hHeld (by simp only [List.getElem?_toArray, List.getElem?_cons_succ, List.getElem?_cons_zero]; exact rfl) (by kernel_rfl) (by exact fun _ _ _ h => h) (by rfl) ?_ ?_
    rotate_left
    · (intro w hSw; (try dsimp only at hSw); go_simp; try with_reducible rfl)
    try simp only [Act.put, List.setIfInBounds_toArray, List.set_cons_zero, List.set_cons_succ]
    refine wpF_take 14 (v := ?_) hHeld (by simp only [List.getElem?_toArray, List.getElem?_cons_succ, List.getElem?_cons_zero]; exact rfl) (by kernel_rfl) (by exact fun _ _ _ h => h) (by rfl) ?_ ?_
    rotate_left
    · (intro w hSw; (try dsimp only at hSw); go_simp; try with_reducible rfl)
    try simp only [Act.put, List.setIfInBounds_toArray, List.set_cons_zero, List.set_cons_succ]
    refine wpF_one 15 (by simp only [List.getElem?_toArray, List.getElem?_cons_succ, List.getElem?_cons_zero]; exact rfl) (by kernel_rfl) (fun K hK => ?_)
    go_simp
    refine (frame_proN N hM'.out.drew ((((((hr'.out.cons _).cons _).cons _).cons _).cons _).cons _) (by omega) (by omega)).mono ?_
    rintro e w5 ⟨A5, c5, S5, rfl, h5, o5⟩
    refine hK _ _ ?_ (fun hHeld => ?_)
    · exact ⟨h5.cellAt 4 0 0 rfl rfl rfl, h5.cellAt 4 0 1 rfl rfl rfl, h5.cellAt 4 0 2 rfl rfl rfl⟩
    clear hK K
    try simp only [Act.put, List.setIfInBounds_toArray, List.set_cons_zero, List.set_cons_succ]
    refine wpF_one 16 (by simp only [List.getElem?_toArray, List.getElem?_cons_succ, List.getElem?_cons_zero]; exact rfl) (by kernel_rfl) (fun K hK => ?_)
    go_simp
    refine (app_disk (n := n) (show Disk W w5 (S5 :: jhdr 99 j b n (.slice A1 N c1) s false :: SO :: SI :: L) b d from ⟨M, SM, rs, h5.re (by intro c hc h0; simp only [List.flatten_cons, hc]; omega), hk'.out⟩) (RL_of (o5.rs _) (by rw [frameV_len]; omega)) hn (by rw [frameV_len]; omega) (by rw [frameV_len]; exact hroom) hfl).mono ?_
    rw [← hy'.out]
    rintro e w6 ⟨rfl, M6, SM6, rs6, h6, k6⟩
    refine hK _ _ ?_ (fun hHeld => ?_)
    · exact ⟨h6.cellAt 4 0 0 rfl rfl rfl, h6.cellAt 4 0 1 rfl rfl rfl, h6.cellAt 4 0 2 rfl rfl rfl⟩
    clear hK K
    try simp only [Act.put, List.setIfInBounds_toArray, List.set_cons_zero, List.set_cons_succ]
    refine wpF_one 17 (by simp only [List.getElem?_toArray, List.getElem?_cons_succ, List.getElem?_cons_zero]; exact rfl) (by kernel_rfl) (fun K hK => ?_)
    go_simp
    have h6j : H W w6 (jhdr 99 j b n (.slice A1 N c1) s false :: dhdr b M6 (d.app n (frameV (UInt64.ofNat N) l)) :: SM6 :: frs rs6 :: S5 :: SO :: SI :: L) := h6.pick 4 rfl
    refine (note_any _ h6j).mono ?_
    rintro e w7 ⟨rfl, h7⟩
    refine hK _ _ ?_ (fun hHeld => ?_)
    · exact ⟨h7.cellAt 0 0 0 rfl rfl rfl, h7.cellAt 0 0 1 rfl rfl rfl, h7.cellAt 0 0 2 rfl rfl rfl⟩
    clear hK K
    try simp only [Act.put, List.setIfInBounds_toArray, List.set_cons_zero, List.set_cons_succ]
    refine wpF_take 18 (v := ?_) hHeld (by simp only [List.getElem?_toArray, List.getElem?_cons_succ, List.getElem?_cons_zero]; exact rfl) (by kernel_rfl) (by exact fun _ _ _ h => h) (by rfl) ?_ ?_
    rotate_left
    · (intro w hSw; (try dsimp only at hSw); go_simp; try with_reducible rfl)
    try simp only [Act.put, List.setIfInBounds_toArray, List.set_cons_zero, List.set_cons_succ]
    refine wpF_done (by kernel_rfl) ?_
    have h7' := Lib.hid (show H W w7 (jhdr 99 j b n (.slice A1 N c1) s false :: dhdr b M6 (d.app n (frameV (UInt64.ofNat N) l)) :: SM6 :: frs rs6 :: S5 :: SO :: SI :: L) from h7)
    clear h7 h6 h6j h5 o5 hHeld
    go_wp2_with fail
    refine wpF_start (S := (fun w' => w'.cell? ⟨j, 2, none⟩ = some (.slice A1 N c1))) (fins := [11]) (by kernel_rfl) ?_ (fun hHeld => ?_)
    · exact h7'.out.drew.cellAt 0 0 2 rfl rfl rfl
    refine wpF_take 0 (v := ?_) hHeld (by simp only [List.getElem?_toArray, List.getElem?_cons_zero]; exact rfl) (by kernel_rfl) (by exact fun _ _ _ h => h) (by rfl) ?_ ?_
    rotate_left
    · (intro w hSw; (try dsimp only at hSw); go_simp; try with_reducible rfl)
    try simp only [Act.put, List.setIfInBounds_toArray, List.set_cons_zero, List.set_cons_succ]
    refine wpF_take 1 (v := ?_) hHeld (by simp only [List.getElem?_toArray, List.getElem?_cons_succ, List.getElem?_cons_zero]; exact rfl) (by kernel_rfl) (by exact fun _ _ _ h => h) (by rfl) ?_ ?_
    rotate_left
    · (intro w hSw; (try dsimp only at hSw); go_simp; try with_reducible rfl)
    try simp only [Act.put, List.setIfInBounds_toArray, List.set_cons_zero, List.set_cons_succ]
    refine wpF_take 2 (v := ?_) hHeld (by simp only [List.getElem?_toArray, List.getElem?_cons_succ, List.getElem?_cons_zero]; exact rfl) (by kernel_rfl) (by exact fun _ _ _ h => h) (by rfl) ?_ ?_
    rotate_left
    · (intro w hSw; (try dsimp only at hSw); go_simp; try with_reducible rfl)
    try simp only [Act.put, List.setIfInBounds_toArray, List.set_cons_zero, List.set_cons_succ]
    refine wpF_take 3 (v := ?_) hHeld (by simp only [List.getElem?_toArray, List.getElem?_cons_succ, List.getElem?_cons_zero]; exact rfl) (by kernel_rfl) (by exact fun _ _ _ h => h) (by rfl) ?_ ?_
    rotate_left
    · (intro w hSw; (try dsimp only at hSw); go_simp; try with_reducible rfl)
    try simp only [Act.put, List.setIfInBounds_toArray, List.set_cons_zero, List.set_cons_succ]
    refine wpF_take 4 (v := ?_) hHeld (by simp only [List.getElem?_toArray, List.getElem?_cons_succ, List.getElem?_cons_zero]; exact rfl) (by kernel_rfl) (by exact fun _ _ _ h => h) (by rfl) ?_ ?_
    rotate_left
    · (intro w hSw; (try dsimp only at hSw); go_simp; try with_reducible rfl)
    try simp only [Act.put, List.setIfInBounds_toArray, List.set_cons_zero, List.set_cons_succ]
    refine wpF_take 5 (v := ?_) hHeld (by simp only [List.getElem?_toArray, List.getElem?_cons_succ, List.getElem?_cons_zero]; exact rfl) (by kernel_rfl) (by exact fun _ _ _ h => h) (by rfl) ?_ ?_
    rotate_left
    · (intro w hSw; (try dsimp only at hSw); go_simp; try with_reducible rfl)
    try simp only [Act.put, List.setIfInBounds_toArray, List.set_cons_zero, List.set_cons_succ]
    refine wpF_one 6 (by simp only [List.getElem?_toArray, List.getElem?_cons_succ, List.getElem?_cons_zero]; exact rfl) (by kernel_rfl) (fun K hK => ?_)
    go_simp
    refine (bclone h7'.out.drew (RL_of ((((((((hr'.out.cons _).cons _).cons _).cons _).cons _).cons _).cons _)) (by omega))).mono ?_
    rintro e w8 ⟨A8, c8, S8, rfl, h8, o8⟩
    refine hK _ _ ?_ (fun hHeld => ?_)
    · exact h8.cellAt 1 0 2 rfl rfl rfl
    clear hK K
    try simp only [Act.put, List.setIfInBounds_toArray, List.set_cons_zero, List.set_cons_succ]
    refine wpF_one 7 (by simp only [List.getElem?_toArray, List.getElem?_cons_succ, List.getElem?_cons_zero]; exact rfl) (by kernel_rfl) (fun K hK => ?_)
    go_simp
    refine hK _ _ ?_ (fun hHeld => ?_)
    · exact (h8.alloc _).cellAt 2 0 2 rfl rfl rfl
    clear hK K
    try simp only [Act.put, List.setIfInBounds_toArray, List.set_cons_zero, List.set_cons_succ]
    refine wpF_one 8 (by simp only [List.getElem?_toArray, List.getElem?_cons_succ, List.getElem?_cons_zero]; exact rfl) (by kernel_rfl) (fun K hK => ?_)
    have hx9 := hxs.out
    refine step_append (m := 1) (news := [.slice A8 l.length c8]) rfl (.tmp 50) (.tmp 53) rfl et22 (by simp [Act.eval]) (by simp [Act.eval]) ((h8.alloc _).pick 7 rfl) hx9 ((h8.lit (E := 27) (size := 1) #[.slice A8 l.length c8] 1 (by simp [maxLen]) rfl).rs (SO :: S8 :: jhdr 99 j b n (.slice A1 N c1) s (false || (0 != 0 && 0 != 1)) :: dhdr b M6 (d.app n (frameV (UInt64.ofNat N) l)) :: SM6 :: frs rs6 :: S5 :: SI :: L) |>.mono mem_to2) (by intro u hu; simp at hu; subst hu; rfl) (by omega) (by omega) ?_
    intro A9 c9 w9 S9 h9 o9
    refine hK _ _ ?_ (fun hHeld => ?_)
    · exact h9.cellAt 3 0 2 rfl rfl rfl
    clear hK K
    try simp only [Act.put, List.setIfInBounds_toArray, List.set_cons_zero, List.set_cons_succ]
    refine wpF_one 9 (by simp only [List.getElem?_toArray, List.getElem?_cons_succ, List.getElem?_cons_zero]; exact rfl) (by kernel_rfl) (fun K hK => ?_)
    go_simp
    refine hK _ _ ?_ (fun hHeld => ?_)
    · exact hHeld
    clear hK K
    try simp only [Act.put, List.setIfInBounds_toArray, List.set_cons_zero, List.set_cons_succ]
    refine wpF_take 10 (v := ?_) hHeld (by simp only [List.getElem?_toArray, List.getElem?_cons_succ, List.getElem?_cons_zero]; exact rfl) (by kernel_rfl) (by exact fun _ _ _ h => h) (by rfl) ?_ ?_
    rotate_left
    · (intro w hSw; (try dsimp only at hSw); go_simp; try with_reducible rfl)
    try simp only [Act.put, List.setIfInBounds_toArray, List.set_cons_zero, List.set_cons_succ]
    refine wpF_last 11 (by simp only [List.getElem?_toArray, List.getElem?_cons_succ, List.getElem?_cons_zero]; exact rfl) (by kernel_rfl) (by decide) (fun K hK => ?_)
    have g2f : w9.frozen? ⟨j, 2, none⟩ = false := h9.freeAt 3 0 2 rfl rfl
    have g2c : w9.cell? ⟨j, 2, none⟩ = some (.slice A1 N c1) := h9.cellAt 3 0 2 rfl rfl rfl
    go_simp
    refine hK _ _ ?_
    clear hK K
    try simp only [Act.put, List.setIfInBounds_toArray, List.set_cons_zero, List.set_cons_succ]
    refine wpF_done (by kernel_rfl) ?_
    have hf := ((show H W w9 ([(j, .cells #[.pointer (some ⟨b, 0, none⟩), .string (bstr n), .slice A1 N c1, .int .i64 s, .bool false] 99 (0, 0))] :: _) from h9.pick 3 rfl).setCell 2 (.slice A9 (N + 1) c9))
    have hfin := Lib.hid (show H W (w9.setCell ⟨j, 2, none⟩ (.slice A9 (N + 1) c9)) (jhdr 99 j b n (.slice A9 (N + 1) c9) s false :: S9 :: _ :: S8 :: dhdr b M6 (d.app n (frameV (UInt64.ofNat N) l)) :: SM6 :: frs rs6 :: S5 :: SI :: L) from hf)
    have hro9 := Lib.hid (hsn.out _ _ l S8 S9 o8 (by omega) o9)
    clear hf h9 o9 h8 o8 hx9 h7'
    go_wp2_with fail
    go_ret
    refine ⟨rfl, .slice A9 (N + 1) c9, S9, SI ++ S8, ⟨M6, SM6, rs6, ?_, k6⟩, ?_, by simp only [List.length_append, List.length_singleton]; rw [← hNd'.out]; omega, hb2⟩
    · exact (((hfin.out.pick 2 rfl).drop.pick 6 rfl).drop).re (by intro c hc h0; simp only [List.flatten_cons, List.eraseIdx, hc]; omega)
    · exact hro9.out
  · rw [if_neg (by decide)]
    go_enter Try.func30, Try.ntmps30
    go_wp2_with fail
    refine wpF_start (S := (fun w' => w'.cell? ⟨j, 0, none⟩ = some (.pointer (some ⟨b, 0, none⟩)) ∧ w'.cell? ⟨j, 1, none⟩ = some (.string (bstr n)) ∧ w'.cell? ⟨j, 2, none⟩ = some (.slice A1 N c1))) (fins := []) (by kernel_rfl) ?_ (fun hHeld => ?_)
    · exact ⟨hM'.out.drew.cellAt 3 0 0 rfl rfl rfl, hM'.out.drew.cellAt 3 0 1 rfl rfl rfl, hM'.out.drew.cellAt 3 0 2 rfl rfl rfl⟩
    refine wpF_take 0 (v := ?_) hHeld (by simp only [List.getElem?_toArray, List.getElem?_cons_zero]; exact rfl) (by kernel_rfl) (by exact fun _ _ _ h => h) (by rfl) ?_ ?_
    rotate_left
    · (intro w hSw; (try dsimp only at hSw); go_simp; try with_reducible rfl)
    try simp only [Act.put, List.setIfInBounds_toArray, List.set_cons_zero, List.set_cons_succ]
    refine wpF_take 1 (v := ?_) hHeld (by simp only [List.getElem?_toArray, List.getElem?_cons_succ, List.getElem?_cons_zero]; exact rfl) (by kernel_rfl) (by exact fun _ _ _ h => h) (by rfl) ?_ ?_
    rotate_left
    · (intro w hSw; (try dsimp only at hSw); go_simp; try with_reducible rfl)
    try simp only [Act.put, List.setIfInBounds_toArray, List.set_cons_zero, List.set_cons_succ]
    refine wpF_take 2 (v := ?_) hHeld (by simp only [List.getElem?_toArray, List.getElem?_cons_succ, List.getElem?_cons_zero]; exact rfl) (by kernel_rfl) (by exact fun _ _ _ h => h) (by rfl) ?_ ?_
    rotate_left
    · (intro w hSw; (try dsimp only at hSw); go_simp; try with_reducible rfl)
    try simp only [Act.put, List.setIfInBounds_toArray, List.set_cons_zero, List.set_cons_succ]
    refine wpF_take 3 (v := ?_) hHeld (by simp only [List.getElem?_toArray, List.getElem?_cons_succ, List.getElem?_cons_zero]; exact rfl) (by kernel_rfl) (by exact fun _ _ _ h => h) (by rfl) ?_ ?_
    rotate_left
    · (intro w hSw; (try dsimp only at hSw); go_simp; try with_reducible rfl)
    try simp only [Act.put, List.setIfInBounds_toArray, List.set_cons_zero, List.set_cons_succ]
    refine wpF_take 4 (v := ?_) hHeld (by simp only [List.getElem?_toArray, List.getElem?_cons_succ, List.getElem?_cons_zero]; exact rfl) (by kernel_rfl) (by exact fun _ _ _ h => h) (by rfl) ?_ ?_
    rotate_left
    · (intro w hSw; (try dsimp only at hSw); go_simp; try with_reducible rfl)
    try simp only [Act.put, List.setIfInBounds_toArray, List.set_cons_zero, List.set_cons_succ]
    refine wpF_take 5 (v := ?_) hHeld (by simp only [List.getElem?_toArray, List.getElem?_cons_succ, List.getElem?_cons_zero]; exact rfl) (by kernel_rfl) (by exact fun _ _ _ h => h) (by rfl) ?_ ?_
    rotate_left
    · (intro w hSw; (try dsimp only at hSw); go_simp; try with_reducible rfl)
    try simp only [Act.put, List.setIfInBounds_toArray, List.set_cons_zero, List.set_cons_succ]
    refine wpF_take 6 (v := ?_) hHeld (by simp only [List.getElem?_toArray, List.getElem?_cons_succ, List.getElem?_cons_zero]; exact rfl) (by kernel_rfl) (by exact fun _ _ _ h => h) (by rfl) ?_ ?_
    rotate_left
    · (intro w hSw; (try dsimp only at hSw); go_simp; try with_reducible rfl)
    try simp only [Act.put, List.setIfInBounds_toArray, List.set_cons_zero, List.set_cons_succ]
    refine wpF_take 7 (v := ?_) hHeld (by simp only [List.getElem?_toArray, List.getElem?_cons_succ, List.getElem?_cons_zero]; exact rfl) (by kernel_rfl) (by exact fun _ _ _ h => h) (by rfl) ?_ ?_
    rotate_left
    · (intro w hSw; (try dsimp only at hSw); go_simp; try with_reducible rfl)
    try simp only [Act.put, List.setIfInBounds_toArray, List.set_cons_zero, List.set_cons_succ]
    refine wpF_take 8 (v := ?_) hHeld (by simp only [List.getElem?_toArray, List.getElem?_cons_succ, List.getElem?_cons_zero]; exact rfl) (by kernel_rfl) (by exact fun _ _ _ h => h) (by rfl) ?_ ?_
    rotate_left
    · (intro w hSw; (try dsimp only at hSw); go_simp; try with_reducible rfl)
    try simp only [Act.put, List.setIfInBounds_toArray, List.set_cons_zero, List.set_cons_succ]
    refine wpF_take 9 (v := ?_) hHeld (by simp only [List.getElem?_toArray, List.getElem?_cons_succ, List.getElem?_cons_zero]; exact rfl) (by kernel_rfl) (by exact fun _ _ _ h => h) (by rfl) ?_ ?_
    rotate_left
    · (intro w hSw; (try dsimp only at hSw); go_simp; try with_reducible rfl)
    try simp only [Act.put, List.setIfInBounds_toArray, List.set_cons_zero, List.set_cons_succ]
    refine wpF_take 10 (v := ?_) hHeld (by simp only [List.getElem?_toArray, List.getElem?_cons_succ, List.getElem?_cons_zero]; exact rfl) (by kernel_rfl) (by exact fun _ _ _ h => h) (by rfl) ?_ ?_
    rotate_left
    · (intro w hSw; (try dsimp only at hSw); go_simp; try with_reducible rfl)
    try simp only [Act.put, List.setIfInBounds_toArray, List.set_cons_zero, List.set_cons_succ]
    refine wpF_take 11 (v := ?_) hHeld (by simp only [List.getElem?_toArray, List.getElem?_cons_succ, List.getElem?_cons_zero]; exact rfl) (by kernel_rfl) (by exact fun _ _ _ h => h) (by rfl) ?_ ?_
    rotate_left
    · (intro w hSw; (try dsimp only at hSw); go_simp; try with_reducible rfl)
    try simp only [Act.put, List.setIfInBounds_toArray, List.set_cons_zero, List.set_cons_succ]
    refine wpF_take 12 (v := ?_) hHeld (by simp only [List.getElem?_toArray, List.getElem?_cons_succ, List.getElem?_cons_zero]; exact rfl) (by kernel_rfl) (by exact fun _ _ _ h => h) (by rfl) ?_ ?_
    rotate_left
    · (intro w hSw; (try dsimp only at hSw); go_simp; try with_reducible rfl)
    try simp only [Act.put, List.setIfInBounds_toArray, List.set_cons_zero, List.set_cons_succ]
    refine wpF_take 13 (v := ?_) hHeld (by simp only [List.getElem?_toArray, List.getElem?_cons_succ, List.getElem?_cons_zero]; exact rfl) (by kernel_rfl) (by exact fun _ _ _ h => h) (by rfl) ?_ ?_
    rotate_left
    · (intro w hSw; (try dsimp only at hSw); go_simp; try with_reducible rfl)
    try simp only [Act.put, List.setIfInBounds_toArray, List.set_cons_zero, List.set_cons_succ]
    refine wpF_take 14 (v := ?_) hHeld (by simp only [List.getElem?_toArray, List.getElem?_cons_succ, List.getElem?_cons_zero]; exact rfl) (by kernel_rfl) (by exact fun _ _ _ h => h) (by rfl) ?_ ?_
    rotate_left
    · (intro w hSw; (try dsimp only at hSw); go_simp; try with_reducible rfl)
    try simp only [Act.put, List.setIfInBounds_toArray, List.set_cons_zero, List.set_cons_succ]
    refine wpF_one 15 (by simp only [List.getElem?_toArray, List.getElem?_cons_succ, List.getElem?_cons_zero]; exact rfl) (by kernel_rfl) (fun K hK => ?_)
    go_simp
    refine (frame_proN N hM'.out.drew ((((((hr'.out.cons _).cons _).cons _).cons _).cons _).cons _) (by omega) (by omega)).mono ?_
    rintro e w5 ⟨A5, c5, S5, rfl, h5, o5⟩
    refine hK _ _ ?_ (fun hHeld => ?_)
    · exact ⟨h5.cellAt 4 0 0 rfl rfl rfl, h5.cellAt 4 0 1 rfl rfl rfl, h5.cellAt 4 0 2 rfl rfl rfl⟩
    clear hK K
    try simp only [Act.put, List.setIfInBounds_toArray, List.set_cons_zero, List.set_cons_succ]
    refine wpF_one 16 (by simp only [List.getElem?_toArray, List.getElem?_cons_succ, List.getElem?_cons_zero]; exact rfl) (by kernel_rfl) (fun K hK => ?_)
    go_simp
    refine (app_disk (n := n) (show Disk W w5 (S5 :: jhdr 99 j b n (.slice A1 N c1) s false :: SO :: SI :: L) b d from ⟨M, SM, rs, h5.re (by intro c hc h0; simp only [List.flatten_cons, hc]; omega), hk'.out⟩) (RL_of (o5.rs _) (by rw [frameV_len]; omega)) hn (by rw [frameV_len]; omega) (by rw [frameV_len]; exact hroom) hfl).mono ?_
    rw [← hy'.out]
    rintro e w6 ⟨rfl, M6, SM6, rs6, h6, k6⟩
    refine hK _ _ ?_ (fun hHeld => ?_)
    · exact ⟨h6.cellAt 4 0 0 rfl rfl rfl, h6.cellAt 4 0 1 rfl rfl rfl, h6.cellAt 4 0 2 rfl rfl rfl⟩
    clear hK K
    try simp only [Act.put, List.setIfInBounds_toArray, List.set_cons_zero, List.set_cons_succ]
    refine wpF_one 17 (by simp only [List.getElem?_toArray, List.getElem?_cons_succ, List.getElem?_cons_zero]; exact rfl) (by kernel_rfl) (fun K hK => ?_)
    go_simp
    have h6j : H W w6 (jhdr 99 j b n (.slice A1 N c1) s false :: dhdr b M6 (d.app n (frameV (UInt64.ofNat N) l)) :: SM6 :: frs rs6 :: S5 :: SO :: SI :: L) := h6.pick 4 rfl
    refine (note_any _ h6j).mono ?_
    rintro e w7 ⟨rfl, h7⟩
    refine hK _ _ ?_ (fun hHeld => ?_)
    · exact ⟨h7.cellAt 0 0 0 rfl rfl rfl, h7.cellAt 0 0 1 rfl rfl rfl, h7.cellAt 0 0 2 rfl rfl rfl⟩
    clear hK K
    try simp only [Act.put, List.setIfInBounds_toArray, List.set_cons_zero, List.set_cons_succ]
    refine wpF_take 18 (v := ?_) hHeld (by simp only [List.getElem?_toArray, List.getElem?_cons_succ, List.getElem?_cons_zero]; exact rfl) (by kernel_rfl) (by exact fun _ _ _ h => h) (by rfl) ?_ ?_
    rotate_left
    · (intro w hSw; (try dsimp only at hSw); go_simp; try with_reducible rfl)
    try simp only [Act.put, List.setIfInBounds_toArray, List.set_cons_zero, List.set_cons_succ]
    refine wpF_done (by kernel_rfl) ?_
    have h7' := Lib.hid (show H W w7 (jhdr 99 j b n (.slice A1 N c1) s true :: dhdr b M6 (d.app n (frameV (UInt64.ofNat N) l)) :: SM6 :: frs rs6 :: S5 :: SO :: SI :: L) from h7)
    clear h7 h6 h6j h5 o5 hHeld
    go_wp2_with fail
    go_ret
    refine ⟨rfl, .slice A1 N c1, SO, SI, ⟨M6, SM6, rs6, ?_, k6⟩, ?_, by rw [← hNd'.out]; omega, hb2⟩
    · exact (h7'.out.pick 4 rfl).drop.re (by intro c hc h0; simp only [List.flatten_cons, List.eraseIdx, hc]; omega)
    · exact hro'.out
end Go.Proofs.Ytfhoblchgeijkaa

/-! part Jw -/
namespace Go.Proofs.Ytfhoblchgeijkaa
open Go.RowKit Go.Maps
variable {W w : World} {L T : List Seg} {S SO SI : Seg} {v : Value} {n l : Bs} {d : AD} {b j : Nat} {a : AJ}

/-- Sync: the error, the journal, the disk. -/
def AJ.syncE (a : AJ) (d : AD) (n : Bs) : Int := if a.dead = true then 103 else if a.recs = [] then 0 else d.chgE n
def AJ.sync (a : AJ) (d : AD) (n : Bs) : AJ := if a.dead = true then a else if a.recs = [] then a else if d.chgE n = 0 then ⟨a.recs, a.recs.length, false⟩ else ⟨a.recs, a.safe, true⟩
def AJ.syncD (a : AJ) (d : AD) (n : Bs) : AD := if a.dead = true then d else if a.recs = [] then d else d.chg n (syncF n)

set_option maxRecDepth 100000 in
set_option maxHeartbeats 6400000 in
theorem sync_jour (h : Jour W w L j b n a d) (hn0 : n ≠ []) (hn : n.length ≤ 1099511627776) :
    Calls Try.prog 32 #[.pointer (some ⟨j, 0, none⟩)] w (PJ (a.syncE d n) W L j b n (a.sync d n) (a.syncD d n)) := by
  by_cases hdead : a.dead = true
  · have e1 : a.syncE d n = 103 := by unfold AJ.syncE; rw [if_pos hdead]
    have e2 : a.sync d n = a := by unfold AJ.sync; rw [if_pos hdead]
    have e3 : a.syncD d n = d := by unfold AJ.syncD; rw [if_pos hdead]
    rw [e1, e2, e3]
    obtain ⟨A1, c1, k0, k1, k2, k3, k4⟩ := h.cells
    rw [hdead] at k4
    have h' := Lib.hid h
    clear h e1 e2 e3 hdead
    go_enter Try.func32, Try.ntmps32
    go_wp2_with fail
    go_ret
    exact ⟨rfl, h'.out⟩
  by_cases hz : a.recs = []
  · have e1 : a.syncE d n = 0 := by unfold AJ.syncE; rw [if_neg hdead, if_pos hz]
    have e2 : a.sync d n = a := by unfold AJ.sync; rw [if_neg hdead, if_pos hz]
    have e3 : a.syncD d n = d := by unfold AJ.syncD; rw [if_neg hdead, if_pos hz]
    rw [e1, e2, e3]
    obtain ⟨A1, c1, k0, k1, k2, k3, k4⟩ := h.cells
    have hd : a.dead = false := by simpa using hdead
    rw [hd] at k4
    rw [show a.recs.length = 0 by rw [hz]; rfl] at k2
    have h' := Lib.hid h
    clear h e1 e2 e3 hdead hz hd
    go_enter Try.func32, Try.ntmps32
    go_wp2_with fail
    go_ret
    exact ⟨rfl, h'.out⟩
  obtain ⟨recs, s, dead⟩ := a
  obtain rfl : dead = false := by simpa using hdead
  obtain ⟨y, hy⟩ : ∃ y, y = d.chgE n := ⟨_, rfl⟩
  obtain ⟨N, hNd⟩ : ∃ N, N = recs.length := ⟨_, rfl⟩
  have e1 : AJ.syncE ⟨recs, s, false⟩ d n = y := by unfold AJ.syncE; rw [if_neg (by simp), if_neg hz, hy]
  have e2 : AJ.sync ⟨recs, s, false⟩ d n = if y = 0 then ⟨recs, N, false⟩ else ⟨recs, s, true⟩ := by unfold AJ.sync; rw [if_neg (by simp), if_neg hz, hy, hNd]
  have e3 : AJ.syncD ⟨recs, s, false⟩ d n = d.chg n (syncF n) := by unfold AJ.syncD; rw [if_neg (by simp), if_neg hz]
  rw [e1, e2, e3]
  obtain ⟨v, SO, SI, hD, hro, hb1, hb2⟩ := h
  simp only at hD hro hb1 hb2 hz
  obtain ⟨A1, c1, rfl, hcap⟩ := hro.cap
  rw [← hNd] at hD hro hcap
  have hy2 : y = 0 ∨ y = 103 ∨ y = 6 := by rw [hy]; exact chgE_cases hn0
  have hN0 : ¬ (N : Int) = 0 := by rw [hNd]; have := List.length_pos_iff.2 hz; omega
  have hN1 : N ≤ 1099511627000 := by rw [hNd]; exact hb1
  obtain ⟨M, SM, rs, hM, hk⟩ := hD
  have hM' := Lib.hid hM
  have hk' := Lib.hid hk
  have hro' := Lib.hid hro
  have hy' := Lib.hid hy
  have hNd' := Lib.hid hNd
  have k0 : w.cell? ⟨j, 0, none⟩ = some (.pointer (some ⟨b, 0, none⟩)) := hM.cellAt 3 0 0 rfl rfl rfl
  have k2 : w.cell? ⟨j, 2, none⟩ = some (.slice A1 N c1) := hM.cellAt 3 0 2 rfl rfl rfl
  have k4 : w.cell? ⟨j, 4, none⟩ = some (.bool false) := hM.cellAt 3 0 4 rfl rfl rfl
  have hbad : ∀ w7 M6 SM6 rs6, H W w7 (jhdr 99 j b n (.slice A1 N c1) s true :: dhdr b M6 (d.chg n (syncF n)) :: SM6 :: frs rs6 :: SO :: SI :: L) → DOk (d.chg n (syncF n)) M6 SM6 rs6 → Jour W w7 L j b n ⟨recs, s, true⟩ (d.chg n (syncF n)) := by
    intro w7 M6 SM6 rs6 h7 k6
    exact ⟨.slice A1 N c1, SO, SI, ⟨M6, SM6, rs6, h7.re (by intro c hc h0; simp only [List.flatten_cons, hc]; omega), k6⟩, hro, hb1, hb2⟩
  have hbad' := Lib.hid hbad
  clear hM hk hro hy hNd hb1 hdead e1 e2 e3 hz hbad
  rcases hy2 with rfl | rfl | rfl
  · rw [if_pos rfl]
    go_enter Try.func32, Try.ntmps32
    go_wp2_with fail
    refine wpF_start (S := (fun w' => w'.cell? ⟨j, 0, none⟩ = some (.pointer (some ⟨b, 0, none⟩)) ∧ w'.cell? ⟨j, 1, none⟩ = some (.string (bstr n)) ∧ w'.cell? ⟨j, 2, none⟩ = some (.slice A1 N c1))) (fins := []) (by kernel_rfl) ?_ (fun hHeld => ?_)
    · exact ⟨hM'.out.drew.cellAt 3 0 0 rfl rfl rfl, hM'.out.drew.cellAt 3 0 1 rfl rfl rfl, hM'.out.drew.cellAt 3 0 2 rfl rfl rfl⟩
    refine wpF_take 0 (v := ?_) hHeld (by simp only [List.getElem?_toArray, List.getElem?_cons_zero]; exact rfl) (by kernel_rfl) (by exact fun _ _ _ h => h) (by rfl) ?_ ?_
    rotate_left
    · (intro w hSw; (try dsimp only at hSw); go_simp; try with_reducible rfl)
    try simp only [Act.put, List.setIfInBounds_toArray, List.set_cons_zero, List.set_cons_succ]
    refine wpF_take 1 (v := ?_) hHeld (by simp only [List.getElem?_toArray, List.getElem?_cons_succ, List.getElem?_cons_zero]; exact rfl) (by kernel_rfl) (by exact fun _ _ _ h => h) (by rfl) ?_ ?_
    rotate_left
    · (intro w hSw; (try dsimp only at hSw); go_simp; try with_reducible rfl)
    try simp only [Act.put, List.setIfInBounds_toArray, List.set_cons_zero, List.set_cons_succ]
    refine wpF_take 2 (v := ?_) hHeld (by simp only [List.getElem?_toArray, List.getElem?_cons_succ, List.getElem?_cons_zero]; exact rfl) (by kernel_rfl) (by exact fun _ _ _ h => h) (by rfl) ?_ ?_
    rotate_left
    · (intro w hSw; (try dsimp only at hSw); go_simp; try with_reducible rfl)
    try simp only [Act.put, List.setIfInBounds_toArray, List.set_cons_zero, List.set_cons_succ]
    refine wpF_take 3 (v := ?_) hHeld (by simp only [List.getElem?_toArray, List.getElem?_cons_succ, List.getElem?_cons_zero]; exact rfl) (by kernel_rfl) (by exact fun _ _ _ h => h) (by rfl) ?_ ?_
    rotate_left
    · (intro w hSw; (try dsimp only at hSw); go_simp; try with_reducible rfl)
    try simp only [Act.put, List.setIfInBounds_toArray, List.set_cons_zero, List.set_cons_succ]
    refine wpF_take 4 (v := ?_) hHeld (by simp only [List.getElem?_toArray, List.getElem?_cons_succ, List.getElem?_cons_zero]; exact rfl) (by kernel_rfl) (by exact fun _ _ _ h => h) (by rfl) ?_ ?_
    rotate_left
    · (intro w hSw; (try dsimp only at hSw); go_simp; try with_reducible rfl)
    try simp only [Act.put, List.setIfInBounds_toArray, List.set_cons_zero, List.set_cons_succ]
    refine wpF_take 5 (v := ?_) hHeld (by simp only [List.getElem?_toArray, List.getElem?_cons_succ, List.getElem?_cons_zero]; exact rfl) (by kernel_rfl) (by exact fun _ _ _ h => h) (by rfl) ?_ ?_
    rotate_left
    · (intro w hSw; (try dsimp only at hSw); go_simp; try with_reducible rfl)
    try simp only [Act.put, List.setIfInBounds_toArray, List.set_cons_zero, List.set_cons_succ]
    refine wpF_take 6 (v := ?_) hHeld (by simp only [List.getElem?_toArray, List.getElem?_cons_succ, List.getElem?_cons_zero]; exact rfl) (by kernel_rfl) (by exact fun _ _ _ h => h) (by rfl) ?_ ?_
    rotate_left
    · (intro w hSw; (try dsimp only at hSw); go_simp; try with_reducible rfl)
    try simp only [Act.put, List.setIfInBounds_toArray, List.set_cons_zero, List.set_cons_succ]
    refine wpF_take 7 (v := ?_) hHeld (by simp only [List.getElem?_toArray, List.getElem?_cons_succ, List.getElem?_cons_zero]; exact rfl) (by kernel_rfl) (by exact fun _ _ _ h => h) (by rfl) ?_ ?_
    rotate_left
    · (intro w hSw; (try dsimp only at hSw); go_simp; try with_reducible rfl)
    try simp only [Act.put, List.setIfInBounds_toArray, List.set_cons_zero, List.set_cons_succ]
    refine wpF_take 8 (v := ?_) hHeld (by simp only [List.getElem?_toArray, List.getElem?_cons_succ, List.getElem?_cons_zero]; exact rfl) (by kernel_rfl) (by exact fun _ _ _ h => h) (by rfl) ?_ ?_
    rotate_left
    · (intro w hSw; (try dsimp only at hSw); go_simp; try with_reducible rfl)
    try simp only [Act.put, List.setIfInBounds_toArray, List.set_cons_zero, List.set_cons_succ]
    refine wpF_one 9 (by simp only [List.getElem?_toArray, List.getElem?_cons_succ, List.getElem?_cons_zero]; exact rfl) (by kernel_rfl) (fun K hK => ?_)
    go_simp
    refine (sync_disk (n := n) (show Disk W w.drew (jhdr 99 j b n (.slice A1 N c1) s false :: SO :: SI :: L) b d from ⟨M, SM, rs, hM'.out.drew, hk'.out⟩) hn).mono ?_
    rw [← hy'.out]
    rintro e w6 ⟨rfl, M6, SM6, rs6, h6, k6⟩
    refine hK _ _ ?_ (fun hHeld => ?_)
    · exact ⟨h6.cellAt 3 0 0 rfl rfl rfl, h6.cellAt 3 0 1 rfl rfl rfl, h6.cellAt 3 0 2 rfl rfl rfl⟩
    clear hK K
    try simp only [Act.put, List.setIfInBounds_toArray, List.set_cons_zero, List.set_cons_succ]
    refine wpF_one 10 (by simp only [List.getElem?_toArray, List.getElem?_cons_succ, List.getElem?_cons_zero]; exact rfl) (by kernel_rfl) (fun K hK => ?_)
    go_simp
    have h6j : H W w6 (jhdr 99 j b n (.slice A1 N c1) s false :: dhdr b M6 (d.chg n (syncF n)) :: SM6 :: frs rs6 :: SO :: SI :: L) := h6.pick 3 rfl
    refine (note_any _ h6j).mono ?_
    rintro e w7 ⟨rfl, h7⟩
    refine hK _ _ ?_ (fun hHeld => ?_)
    · exact ⟨h7.cellAt 0 0 0 rfl rfl rfl, h7.cellAt 0 0 1 rfl rfl rfl, h7.cellAt 0 0 2 rfl rfl rfl⟩
    clear hK K
    try simp only [Act.put, List.setIfInBounds_toArray, List.set_cons_zero, List.set_cons_succ]
    refine wpF_take 11 (v := ?_) hHeld (by simp only [List.getElem?_toArray, List.getElem?_cons_succ, List.getElem?_cons_zero]; exact rfl) (by kernel_rfl) (by exact fun _ _ _ h => h) (by rfl) ?_ ?_
    rotate_left
    · (intro w hSw; (try dsimp only at hSw); go_simp; try with_reducible rfl)
    try simp only [Act.put, List.setIfInBounds_toArray, List.set_cons_zero, List.set_cons_succ]
    refine wpF_done (by kernel_rfl) ?_
    have h7' := Lib.hid (show H W w7 (jhdr 99 j b n (.slice A1 N c1) s false :: dhdr b M6 (d.chg n (syncF n)) :: SM6 :: frs rs6 :: SO :: SI :: L) from h7)
    have g2 : w7.cell? ⟨j, 2, none⟩ = some (.slice A1 N c1) := h7'.out.cellAt 0 0 2 rfl rfl rfl
    have g3 : w7.cell? ⟨j, 3, none⟩ = some (.int .i64 s) := h7'.out.cellAt 0 0 3 rfl rfl rfl
    have g3f : w7.frozen? ⟨j, 3, none⟩ = false := h7'.out.freeAt 0 0 3 rfl rfl
    clear h7 h6 h6j hHeld k2
    go_wp2_with fail
    go_ret
    have hf := ((show H W w7 ([(j, .cells #[.pointer (some ⟨b, 0, none⟩), .string (bstr n), .slice A1 N c1, .int .i64 s, .bool false] 99 (0, 0))] :: _) from h7'.out).setCell 3 (.int .i64 N))
    refine ⟨rfl, .slice A1 N c1, SO, SI, ⟨M6, SM6, rs6, ?_, k6⟩, hro'.out, by show recs.length ≤ _; rw [← hNd'.out]; exact hN1, hN1⟩
    exact (show H W _ (jhdr 99 j b n (.slice A1 N c1) N false :: dhdr b M6 (d.chg n (syncF n)) :: SM6 :: frs rs6 :: SO :: SI :: L) from hf).re (by intro c hc h0; simp only [List.flatten_cons, hc]; omega)
  · rw [if_neg (by decide)]
    go_enter Try.func32, Try.ntmps32
    go_wp2_with fail
    refine wpF_start (S := (fun w' => w'.cell? ⟨j, 0, none⟩ = some (.pointer (some ⟨b, 0, none⟩)) ∧ w'.cell? ⟨j, 1, none⟩ = some (.string (bstr n)) ∧ w'.cell? ⟨j, 2, none⟩ = some (.slice A1 N c1))) (fins := []) (by kernel_rfl) ?_ (fun hHeld => ?_)
    · exact ⟨hM'.out.drew.cellAt 3 0 0 rfl rfl rfl, hM'.out.drew.cellAt 3 0 1 rfl rfl rfl, hM'.out.drew.cellAt 3 0 2 rfl rfl rfl⟩
    refine wpF_take 0 (v := ?_) hHeld (by simp only [List.getElem?_toArray, List.getElem?_cons_zero]; exact rfl) (by kernel_rfl) (by exact fun _ _ _ h => h) (by rfl) ?_ ?_
    rotate_left
    · (intro w hSw; (try dsimp only at hSw); go_simp; try with_reducible rfl)
    try simp only [Act.put, List.setIfInBounds_toArray, List.set_cons_zero, List.set_cons_succ]
    refine wpF_take 1 (v := ?_) hHeld (by simp only [List.getElem?_toArray, List.getElem?_cons_succ, List.getElem?_cons_zero]; exact rfl) (by kernel_rfl) (by exact fun _ _ _ h => h) (by rfl) ?_ ?_
    rotate_left
    · (intro w hSw; (try dsimp only at hSw); go_simp; try with_reducible rfl)
    try simp only [Act.put, List.setIfInBounds_toArray, List.set_cons_zero, List.set_cons_succ]
    refine wpF_take 2 (v := ?_) hHeld (by simp only [List.getElem?_toArray, List.getElem?_cons_succ, List.getElem?_cons_zero]; exact rfl) (by kernel_rfl) (by exact fun _ _ _ h => h) (by rfl) ?_ ?_
    rotate_left
    · (intro w hSw; (try dsimp only at hSw); go_simp; try with_reducible rfl)
    try simp only [Act.put, List.setIfInBounds_toArray, List.set_cons_zero, List.set_cons_succ]
    refine wpF_take 3 (v := ?_) hHeld (by simp only [List.getElem?_toArray, List.getElem?_cons_succ, List.getElem?_cons_zero]; exact rfl) (by kernel_rfl) (by exact fun _ _ _ h => h) (by rfl) ?_ ?_
    rotate_left
    · (intro w hSw; (try dsimp only at hSw); go_simp; try with_reducible rfl)
    try simp only [Act.put, List.setIfInBounds_toArray, List.set_cons_zero, List.set_cons_succ]
    refine wpF_take 4 (v := ?_) hHeld (by simp only [List.getElem?_toArray, List.getElem?_cons_succ, List.getElem?_cons_zero]; exact rfl) (by kernel_rfl) (by exact fun _ _ _ h => h) (by rfl) ?_ ?_
    rotate_left
    · (intro w hSw; (try dsimp only at hSw); go_simp; try with_reducible rfl)
    try simp only [Act.put, List.setIfInBounds_toArray, List.set_cons_zero, List.set_cons_succ]
    refine wpF_take 5 (v := ?_) hHeld (by simp only [List.getElem?_toArray, List.getElem?_cons_succ, List.getElem?_cons_zero]; exact rfl) (by kernel_rfl) (by exact fun _ _ _ h => h) (by rfl) ?_ ?_
    rotate_left
    · (intro w hSw; (try dsimp only at hSw); go_simp; try with_reducible rfl)
    try simp only [Act.put, List.setIfInBounds_toArray, List.set_cons_zero, List.set_cons_succ]
    refine wpF_take 6 (v := ?_) hHeld (by simp only [List.getElem?_toArray, List.getElem?_cons_succ, List.getElem?_cons_zero]; exact rfl) (by kernel_rfl) (by exact fun _ _ _ h => h) (by rfl) ?_ ?_
    rotate_left
    · (intro w hSw; (try dsimp only at hSw); go_simp; try with_reducible rfl)
    try simp only [Act.put, List.setIfInBounds_toArray, List.set_cons_zero, List.set_cons_succ]
    refine wpF_take 7 (v := ?_) hHeld (by simp only [List.getElem?_toArray, List.getElem?_cons_succ, List.getElem?_cons_zero]; exact rfl) (by kernel_rfl) (by exact fun _ _ _ h => h) (by rfl) ?_ ?_
    rotate_left
    · (intro w hSw; (try dsimp only at hSw); go_simp; try with_reducible rfl)
    try simp only [Act.put, List.setIfInBounds_toArray, List.set_cons_zero, List.set_cons_succ]
    refine wpF_take 8 (v := ?_) hHeld (by simp only [List.getElem?_toArray, List.getElem?_cons_succ, List.getElem?_cons_zero]; exact rfl) (by kernel_rfl) (by exact fun _ _ _ h => h) (by rfl) ?_ ?_
    rotate_left
    · (intro w hSw; (try dsimp only at hSw); go_simp; try with_reducible rfl)
    try simp only [Act.put, List.setIfInBounds_toArray, List.set_cons_zero, List.set_cons_succ]
    refine wpF_one 9 (by simp only [List.getElem?_toArray, List.getElem?_cons_succ, List.getElem?_cons_zero]; exact rfl) (by kernel_rfl) (fun K hK => ?_)
    go_simp
    refine (sync_disk (n := n) (show Disk W w.drew (jhdr 99 j b n (.slice A1 N c1) s false :: SO :: SI :: L) b d from ⟨M, SM, rs, hM'.out.drew, hk'.out⟩) hn).mono ?_
    rw [← hy'.out]
    rintro e w6 ⟨rfl, M6, SM6, rs6, h6, k6⟩
    refine hK _ _ ?_ (fun hHeld => ?_)
    · exact ⟨h6.cellAt 3 0 0 rfl rfl rfl, h6.cellAt 3 0 1 rfl rfl rfl, h6.cellAt 3 0 2 rfl rfl rfl⟩
    clear hK K
    try simp only [Act.put, List.setIfInBounds_toArray, List.set_cons_zero, List.set_cons_succ]
    refine wpF_one 10 (by simp only [List.getElem?_toArray, List.getElem?_cons_succ, List.getElem?_cons_zero]; exact rfl) (by kernel_rfl) (fun K hK => ?_)
    go_simp
    have h6j : H W w6 (jhdr 99 j b n (.slice A1 N c1) s false :: dhdr b M6 (d.chg n (syncF n)) :: SM6 :: frs rs6 :: SO :: SI :: L) := h6.pick 3 rfl
    refine (note_any _ h6j).mono ?_
    rintro e w7 ⟨rfl, h7⟩
    refine hK _ _ ?_ (fun hHeld => ?_)
    · exact ⟨h7.cellAt 0 0 0 rfl rfl rfl, h7.cellAt 0 0 1 rfl rfl rfl, h7.cellAt 0 0 2 rfl rfl rfl⟩
    clear hK K
    try simp only [Act.put, List.setIfInBounds_toArray, List.set_cons_zero, List.set_cons_succ]
    refine wpF_take 11 (v := ?_) hHeld (by simp only [List.getElem?_toArray, List.getElem?_cons_succ, List.getElem?_cons_zero]; exact rfl) (by kernel_rfl) (by exact fun _ _ _ h => h) (by rfl) ?_ ?_
    rotate_left
    · (intro w hSw; (try dsimp only at hSw); go_simp; try with_reducible rfl)
    try simp only [Act.put, List.setIfInBounds_toArray, List.set_cons_zero, List.set_cons_succ]
    refine wpF_done (by kernel_rfl) ?_
    have h7' := Lib.hid (hbad'.out _ _ _ _ h7 k6)
    clear h7 h6 h6j hHeld k2
    go_wp2_with fail
    go_ret
    exact ⟨rfl, h7'.out⟩
  · rw [if_neg (by decide)]
    go_enter Try.func32, Try.ntmps32
    go_wp2_with fail
    refine wpF_start (S := (fun w' => w'.cell? ⟨j, 0, none⟩ = some (.pointer (some ⟨b, 0, none⟩)) ∧ w'.cell? ⟨j, 1, none⟩ = some (.string (bstr n)) ∧ w'.cell? ⟨j, 2, none⟩ = some (.slice A1 N c1))) (fins := []) (by kernel_rfl) ?_ (fun hHeld => ?_)
    · exact ⟨hM'.out.drew.cellAt 3 0 0 rfl rfl rfl, hM'.out.drew.cellAt 3 0 1 rfl rfl rfl, hM'.out.drew.cellAt 3 0 2 rfl rfl rfl⟩
    refine wpF_take 0 (v := ?_) hHeld (by simp only [List.getElem?_toArray, List.getElem?_cons_zero]; exact rfl) (by kernel_rfl) (by exact fun _ _ _ h => h) (by rfl) ?_ ?_
    rotate_left
    · (intro w hSw; (try dsimp only at hSw); go_simp; try with_reducible rfl)
    try simp only [Act.put, List.setIfInBounds_toArray, List.set_cons_zero, List.set_cons_succ]
    refine wpF_take 1 (v := ?_) hHeld (by simp only [List.getElem?_toArray, List.getElem?_cons_succ, List.getElem?_cons_zero]; exact rfl) (by kernel_rfl) (by exact fun _ _ _ h => h) (by rfl) ?_ ?_
    rotate_left
    · (intro w hSw; (try dsimp only at hSw); go_simp; try with_reducible rfl)
    try simp only [Act.put, List.setIfInBounds_toArray, List.set_cons_zero, List.set_cons_succ]
    refine wpF_take 2 (v := ?_) hHeld (by simp only [List.getElem?_toArray, List.getElem?_cons_succ, List.getElem?_cons_zero]; exact rfl) (by kernel_rfl) (by exact fun _ _ _ h => h) (by rfl) ?_ ?_
    rotate_left
    · (intro w hSw; (try dsimp only at hSw); go_simp; try with_reducible rfl)
    try simp only [Act.put, List.setIfInBounds_toArray, List.set_cons_zero, List.set_cons_succ]
    refine wpF_take 3 (v := ?_) hHeld (by simp only [List.getElem?_toArray, List.getElem?_cons_succ, List.getElem?_cons_zero]; exact rfl) (by kernel_rfl) (by exact fun _ _ _ h => h) (by rfl) ?_ ?_
    rotate_left
    · (intro w hSw; (try dsimp only at hSw); go_simp; try with_reducible rfl)
    try simp only [Act.put, List.setIfInBounds_toArray, List.set_cons_zero, List.set_cons_succ]
    refine wpF_take 4 (v := ?_) hHeld (by simp only [List.getElem?_toArray, List.getElem?_cons_succ, List.getElem?_cons_zero]; exact rfl) (by kernel_rfl) (by exact fun _ _ _ h => h) (by rfl) ?_ ?_
    rotate_left
    · (intro w hSw; (try dsimp only at hSw); go_simp; try with_reducible rfl)
    try simp only [Act.put, List.setIfInBounds_toArray, List.set_cons_zero, List.set_cons_succ]
    refine wpF_take 5 (v := ?_) hHeld (by simp only [List.getElem?_toArray, List.getElem?_cons_succ, List.getElem?_cons_zero]; exact rfl) (by kernel_rfl) (by exact fun _ _ _ h => h) (by rfl) ?_ ?_
    rotate_left
    · (intro w hSw; (try dsimp only at hSw); go_simp; try with_reducible rfl)
    try simp only [Act.put, List.setIfInBounds_toArray, List.set_cons_zero, List.set_cons_succ]
    refine wpF_take 6 (v := ?_) hHeld (by simp only [List.getElem?_toArray, List.getElem?_cons_succ, List.getElem?_cons_zero]; exact rfl) (by kernel_rfl) (by exact fun _ _ _ h => h) (by rfl) ?_ ?_
    rotate_left
    · (intro w hSw; (try dsimp only at hSw); go_simp; try with_reducible rfl)
    try simp only [Act.put, List.setIfInBounds_toArray, List.set_cons_zero, List.set_cons_succ]
    refine wpF_take 7 (v := ?_) hHeld (by simp only [List.getElem?_toArray, List.getElem?_cons_succ, List.getElem?_cons_zero]; exact rfl) (by kernel_rfl) (by exact fun _ _ _ h => h) (by rfl) ?_ ?_
    rotate_left
    · (intro w hSw; (try dsimp only at hSw); go_simp; try with_reducible rfl)
    try simp only [Act.put, List.setIfInBounds_toArray, List.set_cons_zero, List.set_cons_succ]
    refine wpF_take 8 (v := ?_) hHeld (by simp only [List.getElem?_toArray, List.getElem?_cons_succ, List.getElem?_cons_zero]; exact rfl) (by kernel_rfl) (by exact fun _ _ _ h => h) (by rfl) ?_ ?_
    rotate_left
    · (intro w hSw; (try dsimp only at hSw); go_simp; try with_reducible rfl)
    try simp only [Act.put, List.setIfInBounds_toArray, List.set_cons_zero, List.set_cons_succ]
    refine wpF_one 9 (by simp only [List.getElem?_toArray, List.getElem?_cons_succ, List.getElem?_cons_zero]; exact rfl) (by kernel_rfl) (fun K hK => ?_)
    go_simp
    refine (sync_disk (n := n) (show Disk W w.drew (jhdr 99 j b n (.slice A1 N c1) s false :: SO :: SI :: L) b d from ⟨M, SM, rs, hM'.out.drew, hk'.out⟩) hn).mono ?_
    rw [← hy'.out]
    rintro e w6 ⟨rfl, M6, SM6, rs6, h6, k6⟩
    refine hK _ _ ?_ (fun hHeld => ?_)
    · exact ⟨h6.cellAt 3 0 0 rfl rfl rfl, h6.cellAt 3 0 1 rfl rfl rfl, h6.cellAt 3 0 2 rfl rfl rfl⟩
    clear hK K
    try simp only [Act.put, List.setIfInBounds_toArray, List.set_cons_zero, List.set_cons_succ]
    refine wpF_one 10 (by simp only [List.getElem?_toArray, List.getElem?_cons_succ, List.getElem?_cons_zero]; exact rfl) (by kernel_rfl) (fun K hK => ?_)
    go_simp
    have h6j : H W w6 (jhdr 99 j b n (.slice A1 N c1) s false :: dhdr b M6 (d.chg n (syncF n)) :: SM6 :: frs rs6 :: SO :: SI :: L) := h6.pick 3 rfl
    refine (note_any _ h6j).mono ?_
    rintro e w7 ⟨rfl, h7⟩
    refine hK _ _ ?_ (fun hHeld => ?_)
    · exact ⟨h7.cellAt 0 0 0 rfl rfl rfl, h7.cellAt 0 0 1 rfl rfl rfl, h7.cellAt 0 0 2 rfl rfl rfl⟩
    clear hK K
    try simp only [Act.put, List.setIfInBounds_toArray, List.set_cons_zero, List.set_cons_succ]
    refine wpF_take 11 (v := ?_) hHeld (by simp only [List.getElem?_toArray, List.getElem?_cons_succ, List.getElem?_cons_zero]; exact rfl) (by kernel_rfl) (by exact fun _ _ _ h => h) (by rfl) ?_ ?_
    rotate_left
    · (intro w hSw; (try dsimp only at hSw); go_simp; try with_reducible rfl)
    try simp only [Act.put, List.setIfInBounds_toArray, List.set_cons_zero, List.set_cons_succ]
    refine wpF_done (by kernel_rfl) ?_
    have h7' := Lib.hid (hbad'.out _ _ _ _ h7 k6)
    clear h7 h6 h6j hHeld k2
    go_wp2_with fail
    go_ret
    exact ⟨rfl, h7'.out⟩

set_option maxRecDepth 100000 in
set_option maxHeartbeats 1600000 in
theorem synced_jour (h : Jour W w L j b n a d) : Calls Try.prog 38 #[.pointer (some ⟨j, 0, none⟩)] w fun e w' => e = .returned (.int .i64 a.safe) ∧ w = w' := by
  obtain ⟨A1, c1, k0, k1, k2, k3, k4⟩ := h.cells
  clear h
  go_enter Try.func38, Try.ntmps38
  go_wp2_with fail
  go_ret
  exact ⟨rfl, rfl⟩
theorem synced_nil (w : World) : Calls Try.prog 38 #[.pointer none] w fun e w' => e = .returned (.int .i64 0) ∧ w = w' := by
  go_enter Try.func38, Try.ntmps38
  go_wp2_with fail
  go_ret
  exact ⟨rfl, rfl⟩
theorem sync_jnil (w : World) : Calls Try.prog 32 #[.pointer none] w fun e w' => e = .returned (.int .i64 1) ∧ w = w' := by
  go_enter Try.func32, Try.ntmps32
  go_wp2_with fail
  go_ret
  exact ⟨rfl, rfl⟩
theorem append_jnil (A : Option Addr) (N c : Nat) (w : World) : Calls Try.prog 30 #[.pointer none, .slice A N c] w fun e w' => e = .returned (.int .i64 1) ∧ w = w' := by
  go_enter Try.func30, Try.ntmps30
  go_wp2_with fail
  go_ret
  exact ⟨rfl, rfl⟩
theorem records_nil (w : World) : Calls Try.prog 37 #[.pointer none] w fun e w' => e = .returned (.slice none 0 0) ∧ w = w' := by
  go_enter Try.func37, Try.ntmps37
  go_wp2_with fail
  go_ret
  exact ⟨rfl, rfl⟩

/-- A fresh list of byte strings comes back. -/
def PRows (W : World) (T : List Seg) (ls : List Bs) (e : Ending) (w' : World) : Prop :=
  ∃ A c SO SI, e = .returned (.slice A ls.length c) ∧ H W w' (SO :: SI :: T) ∧ Rows (.slice A ls.length c) ls SO SI

set_option maxRecDepth 100000 in
set_option maxHeartbeats 3200000 in
theorem records_any {A : Option Addr} {c s : Nat} {ls : List Bs} {dead : Bool} (h : H W w T) (k2 : w.cell? ⟨j, 2, none⟩ = some (.slice A ls.length c)) (hr : RRows T (.slice A ls.length c) ls) :
    Calls Try.prog 37 #[.pointer (some ⟨j, 0, none⟩)] w (PRows W T ls) := by
  obtain ⟨xs, hxs, hnl, hall⟩ := hr
  obtain ⟨N, hN⟩ : ∃ N, N = ls.length := ⟨_, rfl⟩
  rw [← hN] at k2 hxs hnl
  have h' := Lib.hid h
  have hxs' := Lib.hid hxs
  have hall' := Lib.hid hall
  have hN' := Lib.hid hN
  clear h hxs hall hN
  go_enter Try.func37, Try.ntmps37
  go_wp2_with fail
  go_loopw [3, 13] (fun o i wr => ∃ (k : Nat) (SO SI : Seg), k ≤ N ∧ i = .int .i64 k ∧ H W wr (SO :: SI :: T) ∧ Rows o (ls.take k) SO SI) (fun _ i _ => N - (intOf i).toNat)
  case atStart => exact ⟨0, [], [], by omega, rfl, h'.out.addNil.addNil, Rows.nil⟩
  case round =>
    obtain ⟨k, SO, SI, hk, rfl, hw, hro⟩ := hrel
    obtain ⟨A1, c1, rfl, hcap⟩ := hro.cap
    have hkl : (ls.take k).length = k := by rw [List.length_take]; have := hN'.out; omega
    rw [hkl] at hro hcap
    have hw' := Lib.hid hw
    have hro' := Lib.hid hro
    have hkl' := Lib.hid hkl
    rw [hkl]
    clear hw hro h' k2 hkl
    by_cases hlt : k < N
    · have hki : (k : Int) < (N : Int) := by omega
      obtain ⟨l, hl⟩ : ∃ l, ls[k]? = some l := ⟨_, List.getElem?_eq_getElem (by rw [← hN'.out]; exact hlt)⟩
      obtain ⟨x, hx, hrl, hll⟩ := hall'.out k l hl
      obtain ⟨X, y, rfl⟩ := hrl.2.form
      obtain ⟨g, o, rfl, hc⟩ := hxs'.out.get (by omega)
      have hcx := hc W wr hw'.out.drop.drop k _ hx
      obtain ⟨xs2, hxs2, hsn⟩ := hro'.out.more
      rw [hkl'.out] at hxs2 hsn
      have hxs2 := Lib.hid hxs2
      have hsn := Lib.hid hsn
      have hrl := Lib.hid hrl
      have htk : ls.take (k + 1) = ls.take k ++ [l] := by rw [List.take_add_one, hl]; rfl
      have htk := Lib.hid htk
      clear hx hc hl
      go_wp2_with fail
      refine (bclone hw'.out ((hrl.out.cons _).cons _)).mono ?_
      rintro e w8 ⟨A8, c8, S8, rfl, h8, o8⟩
      have h8' := Lib.hid h8
      have o8' := Lib.hid o8
      clear h8 o8 hw' hcx
      go_wp2_with (at_builtin; refine stp ?_)
      unfold Stp
      have hx9 := hxs2.out
      refine wpl_append (m := 1) (news := [.slice A8 l.length c8]) rfl (.tmp 17) (.tmp 20) rfl et22 rfl rfl ((h8'.out.alloc _).pick 2 rfl) hx9
        ((h8'.out.lit (E := 27) (size := 1) #[.slice A8 l.length c8] 1 (by simp [maxLen]) rfl).rs (SO :: S8 :: SI :: T) |>.mono mem_to2) (by intro u hu; simp at hu; subst hu; rfl) (by omega) (by omega) ?_
      intro A9 c9 w9 S9 h9 o9
      have h9' := Lib.hid (show H W w9 (S9 :: (SI ++ S8) :: T) from ((show H W w9 (S9 :: S8 :: SI :: T) from (show H W w9 (S9 :: _ :: S8 :: SI :: T) from h9).drop1)).re (by intro c hc h0; simp only [List.flatten_cons, hc]; omega))
      have hro9 := Lib.hid (hsn.out _ _ l S8 S9 o8'.out hll o9)
      clear h9 o9 hx9 h8' o8'
      go_wp2_with fail
      exact ⟨⟨k + 1, S9, SI ++ S8, by omega, by go_num, h9'.out, by rw [htk.out]; exact hro9.out⟩, by simp [intOf]; omega⟩
    · obtain rfl : k = N := by omega
      have htk : ls.take k = ls := List.take_of_length_le (by rw [← hN'.out]; exact Nat.le_refl _)
      have htk := Lib.hid htk
      go_wp2_with fail
      go_ret
      refine ⟨A1, c1, SO, SI, by rw [← hN'.out]; rfl, hw'.out, ?_⟩
      rw [← hN'.out]
      have := hro'.out
      rw [htk.out] at this
      exact this

/-- Records of a journal. -/
theorem records_jour (h : Jour W w L j b n a d) : Calls Try.prog 37 #[.pointer (some ⟨j, 0, none⟩)] w fun e w' => ∃ A c SO SI, e = .returned (.slice A a.recs.length c) ∧ Jour W w' (SO :: SI :: L) j b n a d ∧ Rows (.slice A a.recs.length c) a.recs SO SI := by
  obtain ⟨v, SO, SI, ⟨M, SM, rs, hM, hk⟩, hro, hb1, hb2⟩ := h
  obtain ⟨A, c, rfl, hcap⟩ := hro.cap
  refine (records_any (s := a.safe) (dead := a.dead) hM (hM.cellAt 3 0 2 rfl rfl rfl) ((((hro.reads (by omega) L).cons _).cons _).cons _ |>.cons _)).mono ?_
  rintro e w' ⟨A2, c2, SO2, SI2, rfl, h2, r2⟩
  exact ⟨A2, c2, SO2, SI2, rfl, ⟨.slice A a.recs.length c, SO, SI, ⟨M, SM, rs, h2.re (by intro c hc h0; simp only [List.flatten_cons, hc]; omega), hk⟩, hro, hb1, hb2⟩, r2⟩
end Go.Proofs.Ytfhoblchgeijkaa
