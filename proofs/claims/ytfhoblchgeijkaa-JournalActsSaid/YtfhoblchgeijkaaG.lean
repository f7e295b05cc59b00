import Derived.Test.YtfhoblchgeijkaaF
namespace Go.Proofs.Ytfhoblchgeijkaa
open Go.RowKit Go.Maps
variable {W w : World} {L : List Seg} {v : Value} {l n bs : Bs} {b M : Nat} {d : AD} {SM X S : Seg} {rs rs1 rs2 : List FR} {r : FR} {fs : List (Bs × Nat)}

theorem wpl_mapStore {ops : Array Oper} {rest : List Oper} {o : Oper} {a : Act} {Q : Exit → Act → World → Prop} (hgd : o.guard = none) (m x y : Operand)
    (ho : o.op = .mapUpdate 71 m x y) {B : Nat} (hm : a.eval m = .map (some M)) (hx : a.eval x = .string (bstr n)) (hy : a.eval y = .pointer (some ⟨B, 0, none⟩)) (h : H W w (S :: L)) (hM : MapS Try.prog 9 M fs S)
    (hl : fs.length < maxLen) (hn : n.length ≤ maxLen)
    (hK : ∀ w' S', H W w' (S' :: L) → MapS Try.prog 9 M (insL Prod.fst (n, B) (delL Prod.fst n fs)) S' → wpList Try.prog ops Q rest (a.put o.dst undef) w') :
    wpList Try.prog ops Q (o :: rest) a w := by
  refine wpList_plain hgd fun K' hK' => ?_
  obtain ⟨w', S', hrun, r1, r2⟩ := h.mapStore Try.underlying9 Try.underlying71 hM hl n hn B
  unfold Oper.wp
  simp [execOp, ho, hm, hx, hy, hrun, Result.andThen]
  exact hK' _ _ (hK w' S' r1 r2)

def PAppNew (W : World) (b M : Nat) (d : AD) (n : Bs) (rs : List FR) (T : List Seg) (bs : Bs) (e : Ending) (w' : World) : Prop :=
  ∃ v' S' SM' B, e = .returned (.int .i64 (if d.writes then 0 else 103)) ∧ H W w' (dhdr b M d.wrote :: [(B, .cells #[v', .int .i64 0] 77 (0, 0))] :: S' :: SM' :: T) ∧ CutS v' bs S' ∧
    MapS Try.prog 9 M (insL Prod.fst (n, B) (delL Prod.fst n (rs.map FR.nb))) SM'

set_option maxHeartbeats 1600000 in
theorem app_new {T : List Seg} {vb : Value} (hop : Calls Try.prog 42 #[.pointer (some ⟨b, 0, none⟩), .string (bstr n)] w (POpen none 0 fun w' => w = w'))
    (h : H W w (dhdr b M d :: SM :: T)) (hM : MapS Try.prog 9 M (rs.map FR.nb) SM) (hlen : rs.length ≤ 1099511627776) (hn : n.length ≤ 1099511627776) (hr : RL T vb bs) (hl : d.left < 9223372036854775808) (hbs : bs.length ≤ 1099511627776) :
    Calls Try.prog 13 #[.pointer (some ⟨b, 0, none⟩), .string (bstr n), vb] w (PAppNew W b M d n rs T bs) := by
  have knil : ∀ w, (binOp .eql 71 (.map (some M)) (.map none)).run Try.prog w = .ok (.bool false) w := by intro w; kernel_rfl
  have c0 : w.cell? ⟨b, 0, none⟩ = some (.map (some M)) := h.cellAt 0 0 0 rfl rfl rfl
  have c1 : (w.alloc (.cells #[.slice none 0 0, .int .i64 0] 77)).cell? ⟨b, 0, none⟩ = some (.map (some M)) := (h.alloc _).cellAt 1 0 0 rfl rfl rfl
  have hlt := h.ltAt 0 0 rfl rfl
  have h' := Lib.hid ((h.alloc (.cells #[.slice none 0 0, .int .i64 0] 77)).pick 2 rfl)
  have hM' := Lib.hid hM
  have hr' := Lib.hid hr
  have hb : ([] : Bs).length + bs.length ≤ 140737488355328 := by simp; omega
  have hm1 : (rs.map FR.nb).length < maxLen := by simp [maxLen]; omega
  have hm2 : n.length ≤ maxLen := by unfold maxLen; omega
  clear h hr hM
  cases hwv : d.writes with
  | false =>
    go_enter Try.func13, Try.ntmps13
    go_wp2_with (first
      | (go_at_call 42; refine hop.mono ?_; rintro e w1 ⟨rfl, rfl⟩; unfold ptrV)
      | (at_mapUpdate; refine wpl_mapStore rfl _ _ _ rfl rfl rfl rfl h'.out hM'.out hm1 hm2 ?_; intro w2 SM' h2 h3
         have c2 : w2.cell? ⟨w.heap.size, 0, none⟩ = some (.slice none 0 0) := h2.cellAt 1 0 0 rfl rfl rfl
         have h2' := Lib.hid h2
         have h3' := Lib.hid h3
         clear h2 h3)
      | (at_builtin; refine wpl_appendCut rfl (.tmp 41) (.tmp 42) rfl rfl rfl h2'.out.addNil CutS.nil ((((hr'.out.2.cons (dhdr b M d)).cons _).cons SM').cons []) hb ?_; intro A' cap' w3 S' h4 h5
         have c3 : w3.cell? ⟨w.heap.size, 0, none⟩ = some (.slice none 0 0) := h4.cellAt 2 0 0 rfl rfl rfl
         have f3 : w3.frozen? ⟨w.heap.size, 0, none⟩ = false := h4.freeAt 2 0 0 rfl rfl
         have h4' := Lib.hid (((h4.pick 2 rfl).setCell 0 (.slice A' bs.length cap')).pick 3 rfl)
         have h5' := Lib.hid (show CutS (.slice A' bs.length cap') bs S' by simpa using h5)
         clear h4 h5)
      | (go_at_call 43; refine (write_hdr h4'.out hl).mono ?_; rw [hwv]; rintro e w4 ⟨rfl, h6⟩; have h6' := Lib.hid h6; clear h6))
    go_ret
    exact ⟨_, S', SM', _, by rw [hwv]; rfl, h6'.out, h5'.out, h3'.out⟩
  | true =>
    go_enter Try.func13, Try.ntmps13
    go_wp2_with (first
      | (go_at_call 42; refine hop.mono ?_; rintro e w1 ⟨rfl, rfl⟩; unfold ptrV)
      | (at_mapUpdate; refine wpl_mapStore rfl _ _ _ rfl rfl rfl rfl h'.out hM'.out hm1 hm2 ?_; intro w2 SM' h2 h3
         have c2 : w2.cell? ⟨w.heap.size, 0, none⟩ = some (.slice none 0 0) := h2.cellAt 1 0 0 rfl rfl rfl
         have h2' := Lib.hid h2
         have h3' := Lib.hid h3
         clear h2 h3)
      | (at_builtin; refine wpl_appendCut rfl (.tmp 41) (.tmp 42) rfl rfl rfl h2'.out.addNil CutS.nil ((((hr'.out.2.cons (dhdr b M d)).cons _).cons SM').cons []) hb ?_; intro A' cap' w3 S' h4 h5
         have c3 : w3.cell? ⟨w.heap.size, 0, none⟩ = some (.slice none 0 0) := h4.cellAt 2 0 0 rfl rfl rfl
         have f3 : w3.frozen? ⟨w.heap.size, 0, none⟩ = false := h4.freeAt 2 0 0 rfl rfl
         have h4' := Lib.hid (((h4.pick 2 rfl).setCell 0 (.slice A' bs.length cap')).pick 3 rfl)
         have h5' := Lib.hid (show CutS (.slice A' bs.length cap') bs S' by simpa using h5)
         clear h4 h5)
      | (go_at_call 43; refine (write_hdr h4'.out hl).mono ?_; rw [hwv]; rintro e w4 ⟨rfl, h6⟩; have h6' := Lib.hid h6; clear h6))
    go_ret
    exact ⟨_, S', SM', _, by rw [hwv]; rfl, h6'.out, h5'.out, h3'.out⟩
end Go.Proofs.Ytfhoblchgeijkaa
