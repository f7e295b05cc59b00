import Derived.Test.YtfhoblchgeijkaaJE
import Derived.Test.YtfhoblchgeijkaaXb
set_option linter.unusedVariables false
set_option linter.unusedSimpArgs false
namespace Go.Proofs.Ytfhoblchgeijkaa
open Go.RowKit Go.Maps

theorem framesV_append : ∀ (a c : List Bs) (k : Nat), framesV k (a ++ c) = framesV k a ++ framesV (k + a.length) c
  | [], c, k => by simp [framesV]
  | b :: a, c, k => by simp [framesV, framesV_append a c (k + 1), List.append_assoc, Nat.add_assoc, Nat.add_comm 1]
theorem framesV_le (m : Nat) : ∀ (l : List Bs) (k : Nat), (∀ b ∈ l, b.length ≤ m) → (framesV k l).length ≤ (12 + m) * l.length
  | [], k, _ => by simp [framesV]
  | b :: l, k, h => by
    have h1 := framesV_le m l (k + 1) (fun c hc => h c (by simp [hc]))
    have h2 := h b (by simp)
    simp only [framesV, List.length_append, frameV_len, List.length_cons, Nat.mul_succ]
    omega

/-- The disk behind k appended records, of which s were synced. -/
structure DI (lb : List Bs) (k s : Nat) (d : AD) : Prop where
  sk : s ≤ k
  kl : k ≤ lb.length
  small : ∀ b ∈ lb.take k, b.length ≤ 200
  fs : d.fs = (sfile [106] k (framesV 0 (lb.take k)) (framesV 0 (lb.take s)).length).fs
theorem DI.start (lb : List Bs) (x : Int) : DI lb 0 0 (AD.new.arm x) := ⟨Nat.le_refl _, Nat.zero_le _, by simp, rfl⟩
theorem sfile_fs0 (n dt : Bs) (du : Nat) : (sfile n 0 dt du).fs = [] := rfl
theorem sfile_fs1 (n : Bs) (i : Nat) (dt : Bs) (du : Nat) : (sfile n (i + 1) dt du).fs = [⟨n, dt, du⟩] := rfl
theorem DI.front {lb : List Bs} {k s : Nat} {d : AD} (h : DI lb k s d) : framesV 0 (lb.take k) = framesV 0 (lb.take s) ++ framesV s ((lb.take k).drop s) := by
  have hsk := h.sk
  have hkl := h.kl
  have e : lb.take k = lb.take s ++ (lb.take k).drop s := by
    have h1 : lb.take s = (lb.take k).take s := by rw [List.take_take]; congr 1; omega
    rw [h1, List.take_append_drop]
  have e2 := framesV_append (lb.take s) ((lb.take k).drop s) 0
  have e3 : 0 + (lb.take s).length = s := by rw [List.length_take]; omega
  rw [e3, ← e] at e2
  exact e2
theorem DI.len {lb : List Bs} {k s : Nat} {d : AD} (h : DI lb k s d) : (framesV 0 (lb.take k)).length ≤ 212 * k ∧ (framesV 0 (lb.take s)).length ≤ (framesV 0 (lb.take k)).length := by
  have h1 := framesV_le 200 (lb.take k) 0 h.small
  have h2 : (lb.take k).length ≤ k := by rw [List.length_take]; omega
  have h3 := congrArg List.length h.front
  rw [List.length_append] at h3
  have h4 := Nat.mul_le_mul_left (12 + 200) h2
  omega
theorem appF_fs {d e : AD} {n bs : Bs} (h : d.fs = e.fs) : d.appF n bs = e.appF n bs := by unfold AD.appF AD.find; rw [h]
theorem DI.app {lb : List Bs} {k s : Nat} {d : AD} (h : DI lb k s d) (hoff : d.off = false) {b : Bs} (hb : lb[k]? = some b) (hbl : b.length ≤ 200) :
    DI lb (k + 1) s (d.app [106] (frameV (UInt64.ofNat k) b)) ∧ (d.appE [106] = 0 → (d.app [106] (frameV (UInt64.ofNat k) b)).off = false) := by
  have hkl : k < lb.length := (List.getElem?_eq_some_iff.1 hb).1
  have hop : d.openE [106] = 0 := by unfold AD.openE; rw [if_neg (by decide), hoff]; rfl
  have htk : lb.take (k + 1) = lb.take k ++ [b] := by rw [List.take_add_one, hb]; rfl
  have hlk : (lb.take k).length = k := by rw [List.length_take]; omega
  have hsf : (sfile [106] k (framesV 0 (lb.take k)) (framesV 0 (lb.take s)).length).app [106] (frameV (UInt64.ofNat k) b) = sfile [106] (k + 1) (framesV 0 (lb.take (k + 1))) (framesV 0 (lb.take s)).length := by
    have := jf_app (n := [106]) (by decide) k (lb.take k) (framesV 0 (lb.take s)).length b (by
      intro h0; subst h0
      have hs := h.sk
      obtain rfl : s = 0 := by omega
      exact ⟨rfl, rfl⟩)
    rw [hlk] at this
    rw [this, htk]
  have e1 : d.app [106] (frameV (UInt64.ofNat k) b) = ({ d with fs := d.appF [106] (frameV (UInt64.ofNat k) b) } : AD).wrote := by unfold AD.app; rw [if_pos hop]
  refine ⟨⟨by have := h.sk; omega, by omega, ?_, ?_⟩, ?_⟩
  · rw [htk]
    intro c hc
    rcases List.mem_append.1 hc with hc | hc
    · exact h.small c hc
    · simp at hc; subst hc; exact hbl
  · rw [e1, wrote_fs, ← hsf]
    unfold AD.app
    rw [show (sfile [106] k (framesV 0 (lb.take k)) (framesV 0 (lb.take s)).length).openE [106] = 0 from by unfold AD.openE sfile; rfl, if_pos rfl, wrote_fs]
    exact appF_fs h.fs
  · intro h0
    rw [e1]
    have hw : d.writes = true := by
      unfold AD.appE at h0
      rw [if_pos hop] at h0
      cases hw : d.writes with
      | true => rfl
      | false => rw [hw] at h0; simp at h0
    unfold AD.writes at hw
    unfold AD.wrote
    simp only
    split
    · split
      · rename_i ha hl
        rw [ha, hl] at hw
        simp at hw
      · exact hoff
    · exact hoff
theorem DI.sync {lb : List Bs} {k s : Nat} {d : AD} (h : DI lb k s d) (hoff : d.off = false) (hk : k ≠ 0) :
    (d.chgE [106] = 0 → DI lb k k (d.chg [106] (syncF [106])) ∧ (d.chg [106] (syncF [106])).off = false) ∧ (d.chgE [106] ≠ 0 → DI lb k s (d.chg [106] (syncF [106]))) := by
  obtain ⟨i, rfl⟩ : ∃ i, k = i + 1 := ⟨k - 1, by omega⟩
  have hfs := h.fs
  rw [sfile_fs1] at hfs
  have hex : d.existE [106] = 0 := by
    unfold AD.existE AD.find
    rw [if_neg (by decide), hoff, hfs]
    simp
  refine ⟨fun h0 => ?_, fun h0 => ?_⟩
  · have hw : d.writes = true := by
      unfold AD.chgE at h0
      rw [if_pos hex] at h0
      cases hw : d.writes with
      | true => rfl
      | false => rw [hw] at h0; simp at h0
    have e : d.chg [106] (syncF [106]) = { d.wrote with fs := syncF [106] d.fs } := by unfold AD.chg; rw [if_pos hex, if_pos hw]
    rw [e]
    refine ⟨⟨Nat.le_refl _, h.kl, h.small, ?_⟩, ?_⟩
    · show syncF [106] d.fs = _
      rw [hfs, sfile_fs1]
      rfl
    · show d.wrote.off = false
      unfold AD.writes at hw
      unfold AD.wrote
      split
      · split
        · rename_i ha hl
          rw [ha, hl] at hw
          simp at hw
        · exact hoff
      · exact hoff
  · have hw : d.writes = false := by
      unfold AD.chgE at h0
      rw [if_pos hex] at h0
      cases hw : d.writes with
      | true => rw [hw] at h0; simp at h0
      | false => rfl
    have e : d.chg [106] (syncF [106]) = d.wrote := by unfold AD.chg; rw [if_pos hex, hw]; rfl
    rw [e]
    exact ⟨h.sk, h.kl, h.small, by rw [wrote_fs]; exact h.fs⟩
theorem DI.room {lb : List Bs} {k s : Nat} {d : AD} (h : DI lb k s d) (hk : k ≤ 30) (m : Nat) (hm : m ≤ 65548) : d.room m ∧ d.fs.length < 1099511627776 := by
  have hl := h.len
  rw [AD.room, h.fs]
  cases k with
  | zero => rw [sfile_fs0]; simp
  | succ i =>
    rw [sfile_fs1]
    refine ⟨?_, by simp⟩
    intro f hf
    simp at hf
    subst hf
    simp only
    omega
/-- What a crash leaves. -/
theorem DI.crash {lb : List Bs} {k s : Nat} {d : AD} (h : DI lb k s d) (hk : k ≤ 30) (ps : List Int) :
    ∃ dt du, d.crash ps = sfile [106] k dt du ∧ (k = 0 → dt = []) ∧ dt.length ≤ 212 * k ∧ ∃ m, (parseV dt 0 0).1 = lb.take s ++ m := by
  have hl := h.len
  have e : d.crash ps = (sfile [106] k (framesV 0 (lb.take k)) (framesV 0 (lb.take s)).length).crash ps := by unfold AD.crash; rw [h.fs]
  obtain ⟨dt, du, h1, h2, h3, h4⟩ := sfile_crash (n := [106]) k (framesV 0 (lb.take k)) (framesV 0 (lb.take s)).length ps hl.2
  refine ⟨dt, du, by rw [e, h1], ?_, by omega, ?_⟩
  · intro h0
    subst h0
    exact List.eq_nil_of_length_eq_zero (by simpa [framesV] using h4)
  · have e2 : dt = framesV 0 (lb.take s) ++ dt.drop (framesV 0 (lb.take s)).length := by
      have := List.take_append_drop (framesV 0 (lb.take s)).length dt
      rw [h2, h.front, List.take_left] at this
      exact this.symm
    rw [e2]
    refine parse_pre _ _ ?_
    intro b hb
    have hs := h.sk
    have hb2 : b ∈ lb.take k := by
      have : lb.take s = (lb.take k).take s := by rw [List.take_take]; congr 1; omega
      rw [this] at hb
      exact List.mem_of_mem_take hb
    have := h.small b hb2
    omega
theorem jopen_sfile {n : Bs} (hn : n ≠ []) (i : Nat) (dt : Bs) (du : Nat) (h0 : i = 0 → dt = []) : ∃ d', (sfile n i dt du).jopen n = (d', 0, (parseV dt 0 0).1) := by
  cases i with
  | zero => rw [jopen_none hn, h0 rfl, parseV_nil]; exact ⟨_, rfl⟩
  | succ i =>
    have h1 : (sfile n (i + 1) dt du).rd n = dt := sfile_rd hn _ _ _ (by omega)
    have h4 : (sfile n (i + 1) dt du).existE n = 0 := by rw [sfile_existE hn, if_neg (by omega)]
    have h5 : ∀ dt du, (sfile n (i + 1) dt du).chgE n = 0 := fun dt du => by rw [sfile_chgE hn, if_neg (by omega)]
    have h2 : ∃ dt' du', (sfile n (i + 1) dt du).jcut n = sfile n (i + 1) dt' du' := by
      unfold AD.jcut
      rw [h1]
      split
      · refine ⟨dt.take (min ((parseV dt 0 0).2 : Int).toNat dt.length), min du (min ((parseV dt 0 0).2 : Int).toNat dt.length), ?_⟩
        unfold AD.chg
        rw [h4, if_pos rfl]
        simp [sfile, AD.writes, AD.wrote, truncF, updL, truncG]
      · exact ⟨dt, du, rfl⟩
    have h3 : (sfile n (i + 1) dt du).jcutE n = 0 := by
      unfold AD.jcutE; rw [h5]; split <;> rfl
    obtain ⟨dt', du', h2⟩ := h2
    unfold AD.jopen
    rw [h4, if_neg (by decide), if_neg (by decide), h3, if_neg (by decide), h2, h5, if_neg (by decide), h1]
    exact ⟨_, rfl⟩
end Go.Proofs.Ytfhoblchgeijkaa
