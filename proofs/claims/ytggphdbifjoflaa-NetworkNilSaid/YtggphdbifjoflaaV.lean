import Derived.Test.YtggphdbifjoflaaT
namespace Go.Proofs.Ytggphdbifjoflaa
open Go.RowKit
variable {W w : World} {L : List Seg} {v : Value} {l : List UInt8} {b : Nat} {N x y : Int} {ps : List Pcl}

set_option maxRecDepth 100000 in
set_option maxHeartbeats 3200000 in
theorem nil_walk (a0 a1 a2 a3 a4 a5 a6 : Int) (A : Option Addr) (n c : Nat) (h : H W w L) :
    Calls Try.prog 5 #[.agg #[.int .i64 a0, .int .i64 a1, .int .i64 a2, .int .i64 a3, .int .u8 a4, .int .i64 a5, .int .i64 a6, .slice A n c]] w (PTrue W L) := by
  have h0 := h.alloc (.cells #[.int .i64 a0, .int .i64 a1, .int .i64 a2, .int .i64 a3, .int .u8 a4, .int .i64 a5, .int .i64 a6, .slice A n c] 41)
  have h' := Lib.hid h0
  clear h h0
  go_enter Try.func5, Try.ntmps5
  go_wp2_with (first
    | (go_at_call 9; refine (get_nil a1 h'.out).mono ?_; rintro e w1 ⟨rfl, h1⟩
       have i1 : w1.cell? ⟨w.heap.size, 1, none⟩ = some (.int .i64 a1) := h1.cellAt 0 0 1 rfl rfl rfl
       have hl1 := h1.ltAt 0 0 rfl rfl
       have h1' := Lib.hid (h1.alloc (.cells #[.int .i64 0, .int .i64 0, .slice none 0 0] 30)); clear h1)
    | (go_at_call 12; refine (take_nil a1 h1'.out).mono ?_; rintro e w2 ⟨rfl, h2⟩
       have j1 : w2.cell? ⟨w.heap.size, 1, none⟩ = some (.int .i64 a1) := h2.cellAt 1 0 1 rfl rfl rfl
       have j2 : w2.cell? ⟨w.heap.size, 2, none⟩ = some (.int .i64 a2) := h2.cellAt 1 0 2 rfl rfl rfl
       have j3 : w2.cell? ⟨w.heap.size, 3, none⟩ = some (.int .i64 a3) := h2.cellAt 1 0 3 rfl rfl rfl
       have j4 : w2.cell? ⟨w.heap.size, 4, none⟩ = some (.int .u8 a4) := h2.cellAt 1 0 4 rfl rfl rfl
       have j5 : w2.cell? ⟨w.heap.size, 5, none⟩ = some (.int .i64 a5) := h2.cellAt 1 0 5 rfl rfl rfl
       have j6 : w2.cell? ⟨w.heap.size, 6, none⟩ = some (.int .i64 a6) := h2.cellAt 1 0 6 rfl rfl rfl
       have j7 : w2.cell? ⟨w.heap.size, 7, none⟩ = some (.slice A n c) := h2.cellAt 1 0 7 rfl rfl rfl
       have hl2 := h2.ltAt 1 0 rfl rfl
       have h2' := Lib.hid (h2.alloc (.cells #[.int .i64 0, .int .i64 0, .slice none 0 0] 30)); clear h2)
    | (go_at_call 8; refine (send_nil a5 a6 (.slice A n c) h2'.out).mono ?_; rintro e w3 ⟨rfl, h3⟩
       have k1 : w3.cell? ⟨w.heap.size, 1, none⟩ = some (.int .i64 a1) := h3.cellAt 2 0 1 rfl rfl rfl
       have k2 : w3.cell? ⟨w.heap.size, 2, none⟩ = some (.int .i64 a2) := h3.cellAt 2 0 2 rfl rfl rfl
       have k3 : w3.cell? ⟨w.heap.size, 3, none⟩ = some (.int .i64 a3) := h3.cellAt 2 0 3 rfl rfl rfl
       have k4 : w3.cell? ⟨w.heap.size, 4, none⟩ = some (.int .u8 a4) := h3.cellAt 2 0 4 rfl rfl rfl
       have h3' := Lib.hid h3; clear h3)
    | (go_at_call 13; refine (len_nil _).mono ?_; rintro e w4 ⟨rfl, rfl⟩)
    | (go_at_call 10; refine (dup_nil a1 _).mono ?_; rintro e w5 ⟨rfl, rfl⟩)
    | (go_at_call 11; refine (cor_nil a1 a2 a4 _).mono ?_; rintro e w6 ⟨rfl, rfl⟩)
    | (go_at_call 20; refine (flow_nil a3 _ h3'.out).mono ?_; rintro e w7 ⟨rfl, h7⟩
       have m3 : w7.cell? ⟨w.heap.size, 3, none⟩ = some (.int .i64 a3) := h7.cellAt 2 0 3 rfl rfl rfl
       have h7' := Lib.hid h7; clear h7)
    | (go_at_call 22; refine (disc_nil a3 _ h7'.out).mono ?_; rintro e w8 ⟨rfl, h8⟩; have h8' := Lib.hid h8; clear h8)
    | (go_at_call 6; refine (awake_true h8'.out).mono ?_; rintro e w9 ⟨rfl, h9⟩))
  go_ret
  exact ⟨rfl, h9.drop.drop.drop⟩
end Go.Proofs.Ytggphdbifjoflaa
