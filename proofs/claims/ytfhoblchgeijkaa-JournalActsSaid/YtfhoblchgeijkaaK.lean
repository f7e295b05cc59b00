import Derived.Test.YtfhoblchgeijkaaJ
import Derived.Test.YtfhoblchgeijkaaFin
namespace Go.Proofs.Ytfhoblchgeijkaa
open Go.RowKit Go.Maps
variable {W w : World} {L T : List Seg} {v : Value} {l n bs : Bs} {b M : Nat} {d : AD} {SM X S : Seg} {rs rs1 rs2 : List FR} {r : FR} {fs : List (Bs × Nat)}

theorem step_mapDrop {ops : Array Oper} {o : Oper} {a : Act} {K : Act → World → Prop} {Q : Exit → Act → World → Prop} {X : Prop} (hgd : o.guard = none) (m x : Operand)
    (ho : o.op = .call { callee := .builtin .delete, args := #[m, x], argTypes := #[71, 9] })
    (hm : a.eval m = .map (some M)) (hx : a.eval x = .string (bstr n)) (h : H W w (S :: L)) (hM : MapS Try.prog 9 M fs S) (hn : n.length ≤ maxLen)
    (hK : ∀ w' S', H W w' (S' :: L) → MapS Try.prog 9 M (delL Prod.fst n fs) S' → K (a.put o.dst (.tuple #[])) w') :
    if Region.wanted o (yielded ops a.tmps) = true then Oper.wp Try.prog o a w K Q else X := by
  obtain ⟨w', S', hrun, h2, h3⟩ := h.mapDrop Try.underlying9 Try.underlying71 hM n hn o.type
  rw [if_pos (by simp [Region.wanted, hgd])]
  unfold Oper.wp execOp
  simp only [ho, resolve, invoke, builtin, Sem.run_bind, Sem.run_pure, Result.andThen_ok, List.map_toArray, List.map_cons, List.map_nil, hm, hx, hrun]
  exact hK w' S' h2 h3

def bx25 (B b : Nat) : Seg := [(B, .cells #[.pointer (some ⟨b, 0, none⟩)] 25 (0, 0))]
def bx9 (B : Nat) (n : Bs) : Seg := [(B, .cells #[.string (bstr n)] 9 (0, 0))]

set_option maxHeartbeats 800000 in
theorem rem_clo {p : Value} {bd bn : Nat} (h : H W w (SM :: bx25 bd b :: bx9 bn n :: dhdr b M d :: T)) (hM : MapS Try.prog 9 M fs SM) (hn : n.length ≤ maxLen) :
    Calls Try.prog 47 #[p, .pointer (some ⟨bd, 0, none⟩), .pointer (some ⟨bn, 0, none⟩)] w (PVoid fun w' => ∃ SM', H W w' (SM' :: bx25 bd b :: bx9 bn n :: dhdr b M d :: T) ∧ MapS Try.prog 9 M (delL Prod.fst n fs) SM') := by
  have c0 : w.drew.cell? ⟨bd, 0, none⟩ = some (.pointer (some ⟨b, 0, none⟩)) := h.drew.cellAt 1 0 0 rfl rfl rfl
  have c1 : w.drew.cell? ⟨bn, 0, none⟩ = some (.string (bstr n)) := h.drew.cellAt 2 0 0 rfl rfl rfl
  have c2 : w.drew.cell? ⟨b, 0, none⟩ = some (.map (some M)) := h.drew.cellAt 3 0 0 rfl rfl rfl
  have h' := Lib.hid h.drew
  have hM' := Lib.hid hM
  clear h hM
  go_enter Try.func47, Try.ntmps47
  go_wp2_with fail
  go_region_law (refine step_mapDrop rfl (.tmp 7) (.tmp 8) rfl (by simp [Act.eval]) (by simp [Act.eval]) h'.out hM'.out hn ?_; intro w1 SM' h1 h2)
  all_goals (
    go_wp2
    go_end0
    exact ⟨rfl, SM', h1, h2⟩)
end Go.Proofs.Ytfhoblchgeijkaa
