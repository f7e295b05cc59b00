import Derived.Test.YtfhoblchgeijkaaRl
namespace Go.Proofs.Ytfhoblchgeijkaa
open Go.RowKit Go.Maps
variable {W w : World} {L T : List Seg} {v : Value} {l n bs t : Bs} {b M : Nat} {d : AD} {S SM : Seg} {r : FR} {fs : List (Bs × Nat)}

theorem step_mapStore {ops : Array Oper} {o : Oper} {a : Act} {K : Act → World → Prop} {Q : Exit → Act → World → Prop} {X : Prop} (hgd : o.guard = none) (m x y : Operand)
    (ho : o.op = .mapUpdate 71 m x y) {B : Nat} (hm : a.eval m = .map (some M)) (hx : a.eval x = .string (bstr n)) (hy : a.eval y = .pointer (some ⟨B, 0, none⟩)) (h : H W w (S :: L)) (hM : MapS Try.prog 9 M fs S)
    (hl : fs.length < maxLen) (hn : n.length ≤ maxLen)
    (hK : ∀ w' S', H W w' (S' :: L) → MapS Try.prog 9 M (insL Prod.fst (n, B) (delL Prod.fst n fs)) S' → K (a.put o.dst undef) w') :
    if Region.wanted o (yielded ops a.tmps) = true then Oper.wp Try.prog o a w K Q else X := by
  obtain ⟨w', S', hrun, r1, r2⟩ := h.mapStore Try.underlying9 Try.underlying71 hM hl n hn B
  rw [if_pos (by simp [Region.wanted, hgd])]
  unfold Oper.wp
  simp [execOp, ho, hm, hx, hy, hrun, Result.andThen]
  exact hK w' S' r1 r2

set_option maxRecDepth 100000 in
set_option maxHeartbeats 1600000 in
theorem ren_clo {B bd bn bt : Nat} (h : H W w (SM :: bx25 bd b :: bx9 bn n :: bx9 bt t :: dhdr b M d :: T)) (hM : MapS Try.prog 9 M fs SM) (hn : n.length ≤ maxLen) (ht : t.length ≤ maxLen) (hl : fs.length < maxLen) :
    Calls Try.prog 71 #[.pointer (some ⟨B, 0, none⟩), .pointer (some ⟨bd, 0, none⟩), .pointer (some ⟨bn, 0, none⟩), .pointer (some ⟨bt, 0, none⟩)] w
      (PVoid fun w' => ∃ SM', H W w' (SM' :: bx25 bd b :: bx9 bn n :: bx9 bt t :: dhdr b M d :: T) ∧ MapS Try.prog 9 M (insL Prod.fst (t, B) (delL Prod.fst t (delL Prod.fst n fs))) SM') := by
  have c0 : w.drew.cell? ⟨bd, 0, none⟩ = some (.pointer (some ⟨b, 0, none⟩)) := h.drew.cellAt 1 0 0 rfl rfl rfl
  have c1 : w.drew.cell? ⟨bn, 0, none⟩ = some (.string (bstr n)) := h.drew.cellAt 2 0 0 rfl rfl rfl
  have c2 : w.drew.cell? ⟨b, 0, none⟩ = some (.map (some M)) := h.drew.cellAt 4 0 0 rfl rfl rfl
  have h' := Lib.hid h.drew
  have hM' := Lib.hid hM
  have hlen : (delL Prod.fst n fs).length < maxLen := Nat.lt_of_le_of_lt (List.length_filter_le _ _) hl
  clear h hM
  go_enter Try.func71, Try.ntmps71
  go_wp2_with fail
  go_region_law (refine step_mapDrop rfl (.tmp 8) (.tmp 9) rfl (by simp [Act.eval]) (by simp [Act.eval]) h'.out hM'.out hn ?_; intro w1 SM1 h1 h2)
  all_goals (
    go_wp2_with fail
--REGION 1
    refine wpF_start (S := (fun w' => w'.cell? ⟨bd, 0, none⟩ = some (.pointer (some ⟨b, 0, none⟩)) ∧ w'.cell? ⟨bt, 0, none⟩ = some (.string (bstr t)) ∧ w'.cell? ⟨b, 0, none⟩ = some (.map (some M)))) (fins := []) (by kernel_rfl) ?_ (fun hHeld => ?_)
    · exact ⟨h1.drew.cellAt 1 0 0 rfl rfl rfl, h1.drew.cellAt 3 0 0 rfl rfl rfl, h1.drew.cellAt 4 0 0 rfl rfl rfl⟩
    refine wpF_take 0 (v := ?_) hHeld (by simp only [List.getElem?_toArray, List.getElem?_cons_zero]; exact rfl) (by kernel_rfl) (by exact fun _ _ _ h => h) (by rfl) ?_ ?_
    rotate_left
    · (intro w hSw; (try dsimp only at hSw); go_simp; try with_reducible rfl)
    try simp only [Act.put, List.setIfInBounds_toArray, List.set_cons_zero, List.set_cons_succ]
    refine wpF_take 1 (v := ?_) hHeld (by simp only [List.getElem?_toArray, List.getElem?_cons_succ, List.getElem?_cons_zero]; exact rfl) (by kernel_rfl) (by exact fun _ _ _ h => h) (by rfl) ?_ ?_
    rotate_left
    · (intro w hSw; (try dsimp only at hSw); go_simp; try with_reducible rfl)
    try simp only [Act.put, List.setIfInBounds_toArray, List.set_cons_zero, List.set_cons_succ]
    refine wpF_take 2 (v := ?_) hHeld (by simp only [List.getElem?_toArray, List.getElem?_cons_succ, List.getElem?_cons_zero]; exact rfl) (by kernel_rfl) (by exact fun _ _ _ h => h) (by rfl) ?_ ?_
    rotate_left
    · (intro w hSw; (try dsimp only at hSw); go_simp; try with_reducible rfl)
    try simp only [Act.put, List.setIfInBounds_toArray, List.set_cons_zero, List.set_cons_succ]
    refine wpF_take 3 (v := ?_) hHeld (by simp only [List.getElem?_toArray, List.getElem?_cons_succ, List.getElem?_cons_zero]; exact rfl) (by kernel_rfl) (by exact fun _ _ _ h => h) (by rfl) ?_ ?_
    rotate_left
    · (intro w hSw; (try dsimp only at hSw); go_simp; try with_reducible rfl)
    try simp only [Act.put, List.setIfInBounds_toArray, List.set_cons_zero, List.set_cons_succ]
    refine wpF_take 4 (v := ?_) hHeld (by simp only [List.getElem?_toArray, List.getElem?_cons_succ, List.getElem?_cons_zero]; exact rfl) (by kernel_rfl) (by exact fun _ _ _ h => h) (by rfl) ?_ ?_
    rotate_left
    · (intro w hSw; (try dsimp only at hSw); go_simp; try with_reducible rfl)
    try simp only [Act.put, List.setIfInBounds_toArray, List.set_cons_zero, List.set_cons_succ]
    refine wpF_take 5 (v := ?_) hHeld (by simp only [List.getElem?_toArray, List.getElem?_cons_succ, List.getElem?_cons_zero]; exact rfl) (by kernel_rfl) (by exact fun _ _ _ h => h) (by rfl) ?_ ?_
    rotate_left
    · (intro w hSw; (try dsimp only at hSw); go_simp; try with_reducible rfl)
    try simp only [Act.put, List.setIfInBounds_toArray, List.set_cons_zero, List.set_cons_succ]
    refine wpF_one 6 (by simp only [List.getElem?_toArray, List.getElem?_cons_succ, List.getElem?_cons_zero]; exact rfl) (by kernel_rfl) (fun K hK => ?_)
    refine step_mapStore (B := B) rfl (.tmp 13) (.tmp 14) (.tmp 15) rfl (by simp [Act.eval]) (by simp [Act.eval]) (by simp [Act.eval]) h1.drew h2 hlen ht ?_
    intro w2 SM2 h3 h4
    refine hK _ _ ?_ (fun hHeld => ?_)
    · exact ⟨h3.cellAt 1 0 0 rfl rfl rfl, h3.cellAt 3 0 0 rfl rfl rfl, h3.cellAt 4 0 0 rfl rfl rfl⟩
    clear hK K
    refine wpF_done (by kernel_rfl) ?_
--END 1
    go_wp2_with fail
    go_end0
    exact ⟨rfl, SM2, h3, h4⟩)

def PRen (W : World) (b M bd bn bt : Nat) (d : AD) (n t : Bs) (B : Nat) (fs : List (Bs × Nat)) (T : List Seg) (w' : World) : Prop :=
  ∃ SM', H W w' (SM' :: bx25 bd b :: bx9 bn n :: bx9 bt t :: dhdr b M d.wrote :: T) ∧ MapS Try.prog 9 M (insL Prod.fst (t, B) (delL Prod.fst t (delL Prod.fst n fs))) SM'

set_option maxHeartbeats 400000 in
theorem chg_ren {B bd bn bt : Nat} (hop : Calls Try.prog 45 #[.pointer (some ⟨b, 0, none⟩), .string (bstr n)] w (POpen (some B) 0 fun w' => w = w'))
    (h : H W w (dhdr b M d :: SM :: bx25 bd b :: bx9 bn n :: bx9 bt t :: T)) (hM : MapS Try.prog 9 M fs SM) (hn : n.length ≤ maxLen) (ht : t.length ≤ maxLen) (hlf : fs.length < maxLen) (hl : d.left < 9223372036854775808) (hwv : d.writes = true) :
    Calls Try.prog 40 #[.pointer (some ⟨b, 0, none⟩), .string (bstr n), .func (.func 71) #[] #[.pointer (some ⟨bd, 0, none⟩), .pointer (some ⟨bn, 0, none⟩), .pointer (some ⟨bt, 0, none⟩)]] w (PErr 0 (PRen W b M bd bn bt d n t B fs T)) := by
  have h' := Lib.hid h
  have hM' := Lib.hid hM
  clear h hM
  go_enter Try.func40, Try.ntmps40
  go_wp2_with (first
    | (go_at_call 45; refine hop.mono ?_; rintro e w1 ⟨rfl, rfl⟩; unfold ptrV)
    | (go_at_call 43; refine (write_hdr h'.out hl).mono ?_; rw [hwv]; rintro e w3 ⟨rfl, h4⟩; have h4' := Lib.hid (show H W w3 (SM :: bx25 bd b :: bx9 bn n :: bx9 bt t :: dhdr b M d.wrote :: T) from (((h4.pick 4 rfl).pick 4 rfl).pick 4 rfl).pick 4 rfl); clear h4)
    | (go_at_call 71; refine (ren_clo h4'.out hM'.out hn ht hlf).mono ?_; rintro e w4 ⟨rfl, SM', h5, h6⟩))
  go_ret
  exact ⟨rfl, SM', h5, h6⟩

set_option maxHeartbeats 400000 in
theorem ren_of {x : Int} {P : World → Prop} (ht : t ≠ []) (hc : Calls Try.prog 40 #[.pointer (some ⟨b, 0, none⟩), .string (bstr n), .func (.func 71) #[] #[.pointer (some ⟨w.heap.size, 0, none⟩), .pointer (some ⟨w.heap.size + 1, 0, none⟩), .pointer (some ⟨w.heap.size + 2, 0, none⟩)]]
      (((w.alloc (.cells #[.pointer (some ⟨b, 0, none⟩)] 25)).alloc (.cells #[.string (bstr n)] 9)).alloc (.cells #[.string (bstr t)] 9)) (PErr x P)) :
    Calls Try.prog 49 #[.pointer (some ⟨b, 0, none⟩), .string (bstr n), .string (bstr t)] w (PErr x P) := by
  have ks := nonempty_bstr ht
  go_enter Try.func49, Try.ntmps49
  go_wp2_with (go_at_call 40; refine hc.mono ?_; rintro e w1 ⟨rfl, h1⟩)
  go_ret
  exact ⟨rfl, h1⟩

set_option maxHeartbeats 400000 in
theorem ren_empty {P : World → Prop} (hP : P (((w.alloc (.cells #[.pointer (some ⟨b, 0, none⟩)] 25)).alloc (.cells #[.string (bstr n)] 9)).alloc (.cells #[.string (bstr [])] 9))) :
    Calls Try.prog 49 #[.pointer (some ⟨b, 0, none⟩), .string (bstr n), .string (bstr [])] w (PErr 1 P) := by
  have ks := empty_bstr
  have hP' := Lib.hid hP
  clear hP
  go_enter Try.func49, Try.ntmps49
  go_wp2_with fail
  go_ret
  exact ⟨rfl, hP'.out⟩

def renF (n t : Bs) (fs : List AF) : List AF := match fs.find? (fun f => f.name == n) with
  | none => fs
  | some f => insL AF.name { f with name := t } (delL AF.name t (delL AF.name n fs))
def AD.renE (d : AD) (n t : Bs) : Int := if t = [] then 1 else d.chgE n
def AD.ren (d : AD) (n t : Bs) : AD := if t = [] then d else d.chg n (renF n t)

theorem ren_disk (h : Disk W w L b d) (hn : n.length ≤ 1099511627776) (ht : t.length ≤ 1099511627776) :
    Calls Try.prog 49 #[.pointer (some ⟨b, 0, none⟩), .string (bstr n), .string (bstr t)] w (PErr (d.renE n t) fun w' => Disk W w' L b (d.ren n t)) := by
  have h2 := ((h.alloc (.cells #[.pointer (some ⟨b, 0, none⟩)] 25)).alloc (.cells #[.string (bstr n)] 9)).alloc (.cells #[.string (bstr t)] 9)
  simp only [World.size_alloc, Nat.add_assoc, Nat.reduceAdd] at h2
  by_cases ht0 : t = []
  · subst ht0
    refine (ren_empty (P := fun w' => Disk W w' L b (d.ren n [])) ?_).mono fun e w' h => ?_
    · unfold AD.ren; rw [if_pos rfl]; exact h2.drop.drop.drop
    · unfold AD.renE; rw [if_pos rfl]; exact h
  · unfold AD.renE AD.ren
    rw [if_neg ht0, if_neg ht0]
    refine ren_of ht0 ((chg_any (g := renF n t) _ h2 hn ?_).mono ?_)
    · intro M SM rs1 r rs2 hk hnm hne hwv he hop h1
      have hle := hk.le
      refine (chg_ren (W := W) (t := t) (fs := (rs1 ++ r :: rs2).map FR.nb) (T := frs (rs1 ++ r :: rs2) :: L) (bd := w.heap.size) (bn := w.heap.size + 1) (bt := w.heap.size + 2) (M := M) (SM := SM) (d := d) hop ?_ hk.map (by unfold maxLen; omega) (by unfold maxLen; omega) (by have h9 := hk.le; rw [List.length_map]; unfold maxLen; exact Nat.lt_of_le_of_lt h9 (by decide)) hk.left hwv).mono ?_
      · rw [frs_mid]
        exact h1.re (by intro c hc h0; simp only [List.flatten_cons, hc, bx25, bx9]; omega)
      · rintro e w' ⟨rfl, SM', h3, h4⟩
        have hfind := find_mid hk.fs hnm hne
        unfold AD.find at hfind
        have hdn : delL (fun y : FR => (FR.nb y).1) n (rs1 ++ r :: rs2) = delL (fun y : FR => (FR.nb y).1) n (rs1 ++ rs2) := by
          unfold delL
          simp only [List.filter_append, List.filter_cons]
          have : ((FR.nb r).1 == n) = true := by simp [FR.nb, hnm]
          simp [this]
        obtain ⟨q, hq⟩ : ∃ q, q = delL (fun y : FR => (FR.nb y).1) t (delL (fun y : FR => (FR.nb y).1) n (rs1 ++ rs2)) := ⟨_, rfl⟩
        have hqs : q.Sublist (rs1 ++ rs2) := by rw [hq]; exact List.filter_sublist.trans List.filter_sublist
        obtain ⟨l1, l2, e1, e2, _⟩ := insL_split (fun y : FR => (FR.nb y).1) (⟨{ r.a with name := t }, r.blk, r.v, r.S⟩ : FR) q
        refine ⟨rfl, M, SM', insL (fun y : FR => (FR.nb y).1) (⟨{ r.a with name := t }, r.blk, r.v, r.S⟩ : FR) q, ?_, ?_⟩
        · rw [dhdr_fs]
          rw [frs_mid] at h3
          have e5 : frs (rs1 ++ rs2) = frs rs1 ++ frs rs2 := by simp [frs]
          have h5 : H W w' (frs (rs1 ++ rs2) :: fhdr r :: r.S :: SM' :: dhdr b M d.wrote :: bx9 (w.heap.size + 2) t :: bx9 (w.heap.size + 1) n :: bx25 w.heap.size b :: L) := by
            rw [e5]; exact h3.re (by intro c hc h0; simp only [List.flatten_cons, hc]; omega)
          have h6 := h5.sub (L' := frs q :: fhdr r :: r.S :: SM' :: dhdr b M d.wrote :: bx9 (w.heap.size + 2) t :: bx9 (w.heap.size + 1) n :: bx25 w.heap.size b :: L) (by
            simp only [List.flatten_cons]
            exact (frs_sub hqs).append_right _)
          rw [e2]
          rw [e1] at h6
          have e6 : frs (l1 ++ l2) = frs l1 ++ frs l2 := by simp [frs]
          rw [e6] at h6
          rw [frs_mid]
          exact h6.re (by intro c hc h0; simp only [List.flatten_cons, hc, fhdr, bx9, bx25]; omega)
        · have hlq : q.length ≤ (rs1 ++ rs2).length := hqs.length_le
          refine ⟨?_, ?_, ?_, wrote_left hk.left, ?_⟩
          · have := insL_map FR.nb Prod.fst (⟨{ r.a with name := t }, r.blk, r.v, r.S⟩ : FR) q
            rw [this, hq, delL_map FR.nb Prod.fst, delL_map FR.nb Prod.fst, ← delL_map FR.nb Prod.fst n (rs1 ++ rs2), ← hdn, delL_map FR.nb Prod.fst]
            exact h4
          · intro y hy
            rw [e2] at hy
            have hmem : ∀ y ∈ q, y.ok := fun y hy => hk.each y (by
              have := hqs.subset hy
              simp only [List.mem_append, List.mem_cons] at this ⊢
              rcases this with h | h
              · exact .inl h
              · exact .inr (.inr h))
            rcases List.mem_append.1 hy with hy | hy
            · exact hmem y (by rw [e1]; simp [hy])
            · rcases List.mem_cons.1 hy with rfl | hy
              · have hok := hk.each r (by simp)
                exact hok
              · exact hmem y (by rw [e1]; simp [hy])
          · have := insL_map FR.a AF.name (⟨{ r.a with name := t }, r.blk, r.v, r.S⟩ : FR) q
            show _ = renF n t d.fs
            unfold renF
            rw [hfind]
            simp only
            rw [← hk.fs]
            have e7 := delL_map FR.a AF.name n (rs1 ++ r :: rs2)
            have e8 := delL_map FR.a AF.name t (delL (fun y : FR => (FR.nb y).1) n (rs1 ++ rs2))
            rw [← e7]
            refine this.trans ?_
            rw [hq]
            congr 1
            refine e8.trans ?_
            congr 1
            exact congrArg (List.map FR.a) hdn.symm
          · rw [e2]; rw [e1] at hlq; simp only [List.length_append, List.length_cons] at hlq hle ⊢; omega
    · rintro e w' ⟨rfl, h3⟩
      exact ⟨rfl, h3.drop.drop.drop⟩
end Go.Proofs.Ytfhoblchgeijkaa
