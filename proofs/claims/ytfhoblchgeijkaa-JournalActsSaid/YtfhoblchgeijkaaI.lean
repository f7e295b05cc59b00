import Derived.Test.YtfhoblchgeijkaaG
namespace Go.Proofs.Ytfhoblchgeijkaa
open Go.RowKit Go.Maps
variable {W w : World} {L : List Seg} {v : Value} {l n bs : Bs} {b M : Nat} {d : AD} {SM X S : Seg} {rs rs1 rs2 : List FR} {r : FR} {fs : List (Bs × Nat)}

theorem wrote_fs (d : AD) : d.wrote.fs = d.fs := by unfold AD.wrote; split <;> (try split) <;> rfl
theorem wrote_left (h : d.left < 9223372036854775808) : d.wrote.left < 9223372036854775808 := by
  unfold AD.wrote; split <;> (try split) <;> (first | exact h | (show d.left - 1 < _; omega))

theorem H.re {L' : List Seg} (h : H W w L) (hp : ∀ c : Seg → Nat, (∀ a b, c (a ++ b) = c a + c b) → c [] = 0 → c L.flatten = c L'.flatten) : H W w L' := by
  refine h.perm ?_
  letI : DecidableEq (Nat × Obj) := fun a b => Classical.propDecidable (a = b)
  refine List.perm_iff_count.2 fun a => hp (fun l => l.count a) (fun x y => List.count_append) (by simp)
theorem dhdr_wrote (b M : Nat) (d : AD) (fs : List AF) : dhdr b M ({ d with fs := fs } : AD).wrote = dhdr b M d.wrote := by
  unfold AD.wrote dhdr; simp only; split <;> (try split) <;> rfl

/-- Every file has room for k bytes more. -/
def AD.room (d : AD) (k : Nat) : Prop := ∀ f ∈ d.fs, f.data.length + k ≤ 1099511627776

theorem delL_none (h : findB fs n = none) : delL Prod.fst n fs = fs := by
  unfold findB at h
  simp only [Option.map_eq_none_iff, List.find?_eq_none] at h
  unfold delL
  rw [List.filter_eq_self]
  intro p hp
  simpa using h p hp

theorem app_disk {vb : Value} (h : Disk W w L b d) (hr : RL L vb bs) (hn : n.length ≤ 1099511627776) (hbs : bs.length ≤ 1099511627776) (hroom : d.room bs.length) (hlt : d.fs.length < 1099511627776) :
    Calls Try.prog 13 #[.pointer (some ⟨b, 0, none⟩), .string (bstr n), vb] w (PErr (d.appE n) fun w' => Disk W w' L b (d.app n bs)) := by
  obtain ⟨M, SM, rs, h, hk⟩ := h
  have hop := open_disk (n := n) h hk.map (by unfold maxLen; omega)
  by_cases ho : d.openE n = 0
  · have hlen : rs.length = d.fs.length := by rw [← hk.fs, List.length_map]
    rw [ho] at hop
    cases hob : openB d rs n with
    | none =>
      rw [hob] at hop
      have hnf : findB (rs.map FR.nb) n = none := by unfold openB at hob; rwa [if_pos ho] at hob
      have hfn : (d.find n).isNone = true := by rw [find_asF rs n hk.fs, hnf]; rfl
      refine (app_new hop h hk.map hk.le hn (⟨hr.1, hr.2.cons (frs rs)⟩) hk.left hbs).mono ?_
      rintro e w' ⟨v', S', SM', B, rfl, h1, h2, h3⟩
      refine ⟨by unfold AD.appE; rw [if_pos ho], ?_⟩
      rw [delL_none hnf] at h3
      have hrs := insL_map FR.nb Prod.fst (⟨⟨n, bs, 0⟩, B, v', S'⟩ : FR) rs
      obtain ⟨l1, l2, e1, e2, _⟩ := insL_split (fun y : FR => (FR.nb y).1) (⟨⟨n, bs, 0⟩, B, v', S'⟩ : FR) rs
      have hfs2 := insL_map FR.a AF.name (⟨⟨n, bs, 0⟩, B, v', S'⟩ : FR) rs
      refine ⟨M, SM', insL (fun y : FR => (FR.nb y).1) (⟨⟨n, bs, 0⟩, B, v', S'⟩ : FR) rs, ?_, ?_⟩
      · unfold AD.app
        rw [if_pos ho, dhdr_wrote, e2]
        rw [e1] at h1
        have h4 : H W w' (dhdr b M d.wrote :: fhdr ⟨⟨n, bs, 0⟩, B, v', S'⟩ :: S' :: SM' :: (frs l1 ++ frs l2) :: L) := by
          rw [show frs l1 ++ frs l2 = frs (l1 ++ l2) by simp [frs]]; exact h1
        refine frs_shut ?_
        exact h4.re (by intro c hc h0; simp only [List.flatten_cons, hc]; omega)
      · have hfsd : (d.app n bs).fs = insL AF.name ⟨n, bs, 0⟩ d.fs := by
          unfold AD.app
          rw [if_pos ho, wrote_fs]
          unfold AD.appF
          rw [if_pos hfn]
        refine ⟨by rw [hrs]; exact h3, ?_, ?_, ?_, ?_⟩
        · intro r hr
          rw [e2] at hr
          rw [e1] at hk
          rcases List.mem_append.1 hr with hr | hr
          · exact hk.each r (by simp [hr])
          · rcases List.mem_cons.1 hr with rfl | hr
            · exact ⟨h2, hbs, Nat.zero_le _⟩
            · exact hk.each r (by simp [hr])
        · rw [hfsd, ← hk.fs]; exact hfs2
        · unfold AD.app; rw [if_pos ho]; exact wrote_left hk.left
        · rw [e2]; rw [e1] at hlen; simp at hlen ⊢; omega
    | some x =>
      rw [hob] at hop
      have hf1 : findB (rs.map FR.nb) n = some x := by unfold openB at hob; rwa [if_pos ho] at hob
      obtain ⟨rs1, r, rs2, rfl, rfl, hnm, hne⟩ := found rs n hf1
      have hfi := find_mid hk.fs hnm hne
      have h1 := frs_open h
      have hok := hk.each r (by simp)
      have h2 : H W w (fhdr r :: r.S :: dhdr b M d :: frs rs2 :: frs rs1 :: SM :: L) := h1.re (by intro c hc h0; simp only [List.flatten_cons, hc]; omega)
      refine (app_hit (T := frs rs2 :: frs rs1 :: SM :: L) hop h2 hok ⟨hr.1, ((hr.2.cons SM).cons (frs rs1)).cons (frs rs2)⟩ hk.left hbs).mono ?_
      rintro e w' ⟨v', S', rfl, h3, h4⟩
      refine ⟨by unfold AD.appE; rw [if_pos ho], ?_⟩
      have hfsd : (d.app n bs).fs = updL n (fun f => { f with data := f.data ++ bs }) d.fs := by
        unfold AD.app
        rw [if_pos ho, wrote_fs]
        unfold AD.appF
        rw [if_neg (by rw [hfi]; simp)]
      refine ⟨M, SM, rs1 ++ (⟨{ r.a with data := r.a.data ++ bs }, r.blk, v', S'⟩ : FR) :: rs2, ?_, ?_⟩
      · unfold AD.app
        rw [if_pos ho, dhdr_wrote]
        refine frs_shut ?_
        exact h3.re (by intro c hc h0; simp only [List.flatten_cons, hc, fhdr]; omega)
      · refine ⟨?_, ?_, ?_, ?_, ?_⟩
        · have := hk.map
          simpa [FR.nb] using this
        · intro q hq
          rcases List.mem_append.1 hq with hq | hq
          · exact hk.each q (by simp [hq])
          · rcases List.mem_cons.1 hq with rfl | hq
            · refine ⟨h4, ?_, ?_⟩
              · have := hroom r.a (by rw [← hk.fs]; simp)
                simpa using this
              · have := hok.2.2
                simp only [List.length_append]; omega
            · exact hk.each q (by simp [hq])
        · rw [hfsd, ← hk.fs, List.map_append, List.map_cons, List.map_append, List.map_cons]
          rw [updL_mid _ (by intro s hs; obtain ⟨q, hq, rfl⟩ := List.mem_map.1 hs; exact hne q hq) hnm]
        · unfold AD.app; rw [if_pos ho]; exact wrote_left hk.left
        · have := hk.le; simpa using this
  · have hob : openB d rs n = none := by unfold openB; rw [if_neg ho]
    rw [hob] at hop
    refine (app_miss vb hop ho).mono ?_
    rintro e w' ⟨rfl, rfl⟩
    refine ⟨by unfold AD.appE; rw [if_neg ho], ?_⟩
    unfold AD.app
    rw [if_neg ho]
    exact ⟨M, SM, rs, h, hk⟩
end Go.Proofs.Ytfhoblchgeijkaa
