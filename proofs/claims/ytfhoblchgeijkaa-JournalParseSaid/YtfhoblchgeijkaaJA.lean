import Derived.Test.YtfhoblchgeijkaaSe
import Derived.Laws.Bits64b
set_option linter.unusedVariables false
set_option linter.unusedSimpArgs false
/-! part Ja -/
namespace Go.Proofs.Ytfhoblchgeijkaa
open Go.RowKit Go.Maps
variable {W w : World} {L T : List Seg}

/-! The hash's numbers: a uint64 is a UInt64 `x`, its value `.int .u64 x.toNat`. The laws are plain functions, never unfolded. -/
def rot13 (x : UInt64) : UInt64 := x <<< 13 ||| x >>> 51
def rot32 (x : UInt64) : UInt64 := x <<< 32 ||| x >>> 32
theorem lt64 (x : UInt64) : x.toNat < 18446744073709551616 := x.toNat_lt
theorem w64_add (x y : UInt64) : IntKind.u64.wrap ((x.toNat : Int) + (y.toNat : Int)) = ((x + y).toNat : Int) := by
  rw [IntKind.wrap_u64, UInt64.toNat_add]; omega
theorem w64_mul (x : UInt64) (c : UInt64) : IntKind.u64.wrap ((x.toNat : Int) * (c.toNat : Int)) = ((x * c).toNat : Int) := by
  rw [IntKind.wrap_u64, UInt64.toNat_mul, ← Int.natCast_mul]; omega
theorem w64_xor (x y : UInt64) : bits .xor .u64 (x.toNat : Int) (y.toNat : Int) = ((x ^^^ y).toNat : Int) := by
  rw [bits_xor_u64_nat _ _ (lt64 x) (lt64 y), UInt64.toNat_xor]
theorem w64_or (x y : UInt64) : bits .or .u64 (x.toNat : Int) (y.toNat : Int) = ((x ||| y).toNat : Int) := by
  rw [bits_or_u64_nat _ _ (lt64 x) (lt64 y), UInt64.toNat_or]
theorem w64_shl (x : UInt64) (k : UInt64) (c : Nat) (hc : c = 2 ^ (k.toNat % 64)) : IntKind.u64.wrap ((x.toNat : Int) * (c : Int)) = ((x <<< k).toNat : Int) := by
  rw [IntKind.wrap_u64, UInt64.toNat_shiftLeft, Nat.shiftLeft_eq, hc, ← Int.natCast_mul]; omega
theorem w64_shr (x : UInt64) (k : UInt64) (c : Nat) (hc : c = 2 ^ (k.toNat % 64)) : (x.toNat : Int) / (c : Int) = ((x >>> k).toNat : Int) := by
  rw [UInt64.toNat_shiftRight, Nat.shiftRight_eq_div_pow, hc, ← Int.natCast_ediv]
theorem rot13_eq (x : UInt64) : bits .or .u64 (IntKind.u64.wrap ((x.toNat : Int) * 8192)) ((x.toNat : Int) / 2251799813685248) = ((rot13 x).toNat : Int) := by
  have h1 := w64_shl x 13 8192 (by decide)
  have h2 := w64_shr x 51 2251799813685248 (by decide)
  rw [show ((8192 : Nat) : Int) = 8192 from rfl] at h1
  rw [show ((2251799813685248 : Nat) : Int) = 2251799813685248 from rfl] at h2
  rw [h1, h2, w64_or]; rfl
theorem rot32_eq (x : UInt64) : bits .or .u64 (IntKind.u64.wrap ((x.toNat : Int) * 4294967296)) ((x.toNat : Int) / 4294967296) = ((rot32 x).toNat : Int) := by
  have h1 := w64_shl x 32 4294967296 (by decide)
  have h2 := w64_shr x 32 4294967296 (by decide)
  rw [show ((4294967296 : Nat) : Int) = 4294967296 from rfl] at h1 h2
  rw [h1, h2, w64_or]; rfl

def PU64 (x : UInt64) (w : World) (e : Ending) (w' : World) : Prop := e = .returned (.int .u64 x.toNat) ∧ w = w'
theorem rotl13_ref (x : UInt64) (w : World) : Calls Try.prog 106 #[.int .u64 x.toNat, .int .u64 13] w (PU64 (rot13 x) w) := by
  have e := rot13_eq x
  go_enter Try.func106, Try.ntmps106
  go_wp2
  go_ret
  exact ⟨rfl, rfl⟩
theorem rotl32_ref (x : UInt64) (w : World) : Calls Try.prog 106 #[.int .u64 x.toNat, .int .u64 32] w (PU64 (rot32 x) w) := by
  have e := rot32_eq x
  go_enter Try.func106, Try.ntmps106
  go_wp2
  go_ret
  exact ⟨rfl, rfl⟩
theorem rotl13_pro (x : UInt64) (w : World) : Calls Try.prog 105 #[.int .u64 x.toNat, .int .i64 13] w (PU64 (rot13 x) w) := by
  have e := rot13_eq x
  have e1 : bits .and .u64 13 63 = 13 := by decide
  go_enter Try.func105, Try.ntmps105
  go_wp2
  go_ret
  exact ⟨rfl, rfl⟩
theorem rotl32_pro (x : UInt64) (w : World) : Calls Try.prog 105 #[.int .u64 x.toNat, .int .i64 32] w (PU64 (rot32 x) w) := by
  have e := rot32_eq x
  have e1 : bits .and .u64 32 63 = 32 := by decide
  go_enter Try.func105, Try.ntmps105
  go_wp2
  go_ret
  exact ⟨rfl, rfl⟩

def mixA (x y : UInt64) : UInt64 := x + y
def mixB (x y : UInt64) : UInt64 := rot13 y ^^^ mixA x y
def mixC (x y : UInt64) : UInt64 := rot32 (mixA x y) * 11400714819323198485
theorem mixA_eq (x y : UInt64) : IntKind.u64.wrap ((x.toNat : Int) + (y.toNat : Int)) = ((mixA x y).toNat : Int) := w64_add x y
theorem mixC_eq (x y : UInt64) : IntKind.u64.wrap (((rot32 (mixA x y)).toNat : Int) * 11400714819323198485) = ((mixC x y).toNat : Int) := w64_mul _ 11400714819323198485
theorem mixB_eq (x y : UInt64) : bits .xor .u64 ((rot13 y).toNat : Int) ((mixA x y).toNat : Int) = ((mixB x y).toNat : Int) := w64_xor _ _

def PMix (x y : UInt64) (w : World) (e : Ending) (w' : World) : Prop := e = .returned (.tuple #[.int .u64 (mixC x y).toNat, .int .u64 (mixB x y).toNat]) ∧ w = w'
theorem mix_ref (x y : UInt64) (w : World) : Calls Try.prog 91 #[.int .u64 x.toNat, .int .u64 y.toNat] w (PMix x y w) := by
  have e1 := mixA_eq x y
  have e2 := mixB_eq x y
  have e3 := mixC_eq x y
  go_enter Try.func91, Try.ntmps91
  go_wp2_with fail
  refine (rotl13_ref y w).mono ?_
  rintro e w1 ⟨rfl, rfl⟩
  go_wp2_with fail
  refine (rotl32_ref (mixA x y) w).mono ?_
  rintro e w1 ⟨rfl, rfl⟩
  go_wp2_with fail
  go_ret2
  exact ⟨rfl, rfl⟩
end Go.Proofs.Ytfhoblchgeijkaa

/-! part Jb -/
namespace Go.Proofs.Ytfhoblchgeijkaa
open Go.RowKit Go.Maps
variable {W w : World} {L T : List Seg} {S : Seg}

/-- The eight bytes of a number, the highest first. -/
def ofB (x : UInt64) : List UInt8 := [UInt8.ofNat (x.toNat / 72057594037927936), UInt8.ofNat (x.toNat / 281474976710656), UInt8.ofNat (x.toNat / 1099511627776), UInt8.ofNat (x.toNat / 4294967296),
  UInt8.ofNat (x.toNat / 16777216), UInt8.ofNat (x.toNat / 65536), UInt8.ofNat (x.toNat / 256), UInt8.ofNat x.toNat]
theorem by8 (n : Nat) : (n : Int) % 256 = ((UInt8.ofNat n).toNat : Int) := by rw [UInt8.toNat_ofNat']; omega
theorem by8d (n c : Nat) : (n : Int) / (c : Int) % 256 = ((UInt8.ofNat (n / c)).toNat : Int) := by rw [← Int.natCast_ediv, by8]
theorem ofB_len (x : UInt64) : (ofB x).length = 8 := rfl

/-- An array of eight bytes comes back. -/
def POf (x : UInt64) (W : World) (L : List Seg) (e : Ending) (w' : World) : Prop := e = .returned (.agg (u8s (ofB x)).toArray) ∧ H W w' L
theorem ofB_cells (x : UInt64) : (u8s (ofB x)).toArray = #[.int .u8 ((x.toNat : Int) / 72057594037927936 % 256), .int .u8 ((x.toNat : Int) / 281474976710656 % 256), .int .u8 ((x.toNat : Int) / 1099511627776 % 256), .int .u8 ((x.toNat : Int) / 4294967296 % 256),
    .int .u8 ((x.toNat : Int) / 16777216 % 256), .int .u8 ((x.toNat : Int) / 65536 % 256), .int .u8 ((x.toNat : Int) / 256 % 256), .int .u8 ((x.toNat : Int) % 256)] := by
  have h0 := by8d x.toNat 72057594037927936
  have h1 := by8d x.toNat 281474976710656
  have h2 := by8d x.toNat 1099511627776
  have h3 := by8d x.toNat 4294967296
  have h4 := by8d x.toNat 16777216
  have h5 := by8d x.toNat 65536
  have h6 := by8d x.toNat 256
  have h7 := by8 x.toNat
  unfold u8s ofB
  simp only [List.map_cons, List.map_nil]
  rw [← h0, ← h1, ← h2, ← h3, ← h4, ← h5, ← h6, ← h7]
  rfl
theorem of_ref (x : UInt64) (h : H W w L) : Calls Try.prog 92 #[.int .u64 x.toNat] w (POf x W L) := by
  have e := ofB_cells x
  have h' := Lib.hid h
  have e' := Lib.hid e
  clear h e
  go_enter Try.func92, Try.ntmps92
  go_wp2_with fail
  refine bodyPost_ret (v := .agg (u8s (ofB x)).toArray) ?_ rfl ⟨rfl, (h'.out.alloc _).drop⟩
  have hres : Try.f92.results = #[.cell 2 95] := by kernel_rfl
  simp only [results, hres]
  rw [e'.out]
  go_simp
theorem of_pro (x : UInt64) (h : H W w L) : Calls Try.prog 89 #[.int .u64 x.toNat] w (POf x W L) := by
  have e := ofB_cells x
  have h' := Lib.hid h
  have e' := Lib.hid e
  clear h e
  go_enter Try.func89, Try.ntmps89
  go_wp2_with fail
  refine bodyPost_ret (v := .agg (u8s (ofB x)).toArray) ?_ rfl ⟨rfl, (h'.out.alloc _).drop⟩
  have hres : Try.f89.results = #[.cell 2 95] := by kernel_rfl
  simp only [results, hres]
  rw [e'.out]
  go_simp
end Go.Proofs.Ytfhoblchgeijkaa

/-! part Jc -/
namespace Go.Proofs.Ytfhoblchgeijkaa
open Go.RowKit Go.Maps
variable {W w : World} {L T : List Seg} {S : Seg}

def word8 (b0 b1 b2 b3 b4 b5 b6 b7 : UInt8) : UInt64 :=
  b0.toUInt64 <<< 56 ||| b1.toUInt64 <<< 48 ||| b2.toUInt64 <<< 40 ||| b3.toUInt64 <<< 32 ||| b4.toUInt64 <<< 24 ||| b5.toUInt64 <<< 16 ||| b6.toUInt64 <<< 8 ||| b7.toUInt64
theorem sh8 (x : UInt8) (k : UInt64) (c : Nat) (hc : c = 2 ^ (k.toNat % 64)) : IntKind.u64.wrap ((x.toNat : Int) * (c : Int)) = ((x.toUInt64 <<< k).toNat : Int) := by
  have := w64_shl x.toUInt64 k c hc
  rw [UInt8.toNat_toUInt64] at this
  exact this
theorem w8id (x : UInt8) : IntKind.u64.wrap (x.toNat : Int) = (x.toNat : Int) := by
  have := x.toNat_lt
  rw [IntKind.wrap_u64]; omega
theorem word8_eq (b0 b1 b2 b3 b4 b5 b6 b7 : UInt8) :
    bits .or .u64 (bits .or .u64 (bits .or .u64 (bits .or .u64 (bits .or .u64 (bits .or .u64 (bits .or .u64 (IntKind.u64.wrap ((b0.toNat : Int) * 72057594037927936)) (IntKind.u64.wrap ((b1.toNat : Int) * 281474976710656))) (IntKind.u64.wrap ((b2.toNat : Int) * 1099511627776)))
      (IntKind.u64.wrap ((b3.toNat : Int) * 4294967296))) (IntKind.u64.wrap ((b4.toNat : Int) * 16777216))) (IntKind.u64.wrap ((b5.toNat : Int) * 65536))) (IntKind.u64.wrap ((b6.toNat : Int) * 256))) (b7.toNat : Int) = ((word8 b0 b1 b2 b3 b4 b5 b6 b7).toNat : Int) := by
  have h0 : IntKind.u64.wrap ((b0.toNat : Int) * 72057594037927936) = _ := sh8 b0 56 72057594037927936 (by decide)
  have h1 : IntKind.u64.wrap ((b1.toNat : Int) * 281474976710656) = _ := sh8 b1 48 281474976710656 (by decide)
  have h2 : IntKind.u64.wrap ((b2.toNat : Int) * 1099511627776) = _ := sh8 b2 40 1099511627776 (by decide)
  have h3 : IntKind.u64.wrap ((b3.toNat : Int) * 4294967296) = _ := sh8 b3 32 4294967296 (by decide)
  have h4 : IntKind.u64.wrap ((b4.toNat : Int) * 16777216) = _ := sh8 b4 24 16777216 (by decide)
  have h5 : IntKind.u64.wrap ((b5.toNat : Int) * 65536) = _ := sh8 b5 16 65536 (by decide)
  have h6 : IntKind.u64.wrap ((b6.toNat : Int) * 256) = _ := sh8 b6 8 256 (by decide)
  have h7 : (b7.toNat : Int) = (b7.toUInt64.toNat : Int) := by rw [UInt8.toNat_toUInt64]
  rw [h0, h1, h2, h3, h4, h5, h6, h7, w64_or, w64_or, w64_or, w64_or, w64_or, w64_or, w64_or]
  rfl

def PWord (x : UInt64) (W : World) (L : List Seg) (e : Ending) (w' : World) : Prop := e = .returned (.int .u64 x.toNat) ∧ H W w' L
set_option maxRecDepth 100000 in
set_option maxHeartbeats 1600000 in
theorem word_ref8 {g o n c : Nat} {b0 b1 b2 b3 b4 b5 b6 b7 : UInt8} (h : H W w L) (hn : 8 ≤ n) (c0 : w.cell? ⟨g, o, none⟩ = some (.int .u8 b0.toNat)) (c1 : w.cell? ⟨g, o + 1, none⟩ = some (.int .u8 b1.toNat))
    (c2 : w.cell? ⟨g, o + 2, none⟩ = some (.int .u8 b2.toNat)) (c3 : w.cell? ⟨g, o + 3, none⟩ = some (.int .u8 b3.toNat)) (c4 : w.cell? ⟨g, o + 4, none⟩ = some (.int .u8 b4.toNat)) (c5 : w.cell? ⟨g, o + 5, none⟩ = some (.int .u8 b5.toNat))
    (c6 : w.cell? ⟨g, o + 6, none⟩ = some (.int .u8 b6.toNat)) (c7 : w.cell? ⟨g, o + 7, none⟩ = some (.int .u8 b7.toNat)) :
    Calls Try.prog 90 #[.slice (some ⟨g, o, none⟩) n c] w (PWord (word8 b0 b1 b2 b3 b4 b5 b6 b7) W L) := by
  have hw8 := w8id
  have e := word8_eq b0 b1 b2 b3 b4 b5 b6 b7
  have g1 : decide ((8 : Int) ≤ (n : Int)) = true := by simp; omega
  have h' := Lib.hid h
  clear h
  go_enter Try.func90, Try.ntmps90
  go_wp2_with fail
  go_quiet (fail)
  go_wp2_with fail
  go_ret
  exact ⟨rfl, h'.out.drewN nq⟩
set_option maxRecDepth 100000 in
set_option maxHeartbeats 1600000 in
theorem word_pro8 {g o n c : Nat} {b0 b1 b2 b3 b4 b5 b6 b7 : UInt8} (h : H W w L) (hn : 8 ≤ n) (c0 : w.cell? ⟨g, o, none⟩ = some (.int .u8 b0.toNat)) (c1 : w.cell? ⟨g, o + 1, none⟩ = some (.int .u8 b1.toNat))
    (c2 : w.cell? ⟨g, o + 2, none⟩ = some (.int .u8 b2.toNat)) (c3 : w.cell? ⟨g, o + 3, none⟩ = some (.int .u8 b3.toNat)) (c4 : w.cell? ⟨g, o + 4, none⟩ = some (.int .u8 b4.toNat)) (c5 : w.cell? ⟨g, o + 5, none⟩ = some (.int .u8 b5.toNat))
    (c6 : w.cell? ⟨g, o + 6, none⟩ = some (.int .u8 b6.toNat)) (c7 : w.cell? ⟨g, o + 7, none⟩ = some (.int .u8 b7.toNat)) :
    Calls Try.prog 87 #[.slice (some ⟨g, o, none⟩) n c] w (PWord (word8 b0 b1 b2 b3 b4 b5 b6 b7) W L) := by
  have hw8 := w8id
  have e := word8_eq b0 b1 b2 b3 b4 b5 b6 b7
  have g1 : decide ((8 : Int) ≤ (n : Int)) = true := by simp; omega
  have h' := Lib.hid h
  clear h
  go_enter Try.func87, Try.ntmps87
  go_wp2_with fail
  go_quiet (fail)
  go_wp2_with fail
  go_ret
  exact ⟨rfl, h'.out.drewN nq⟩
end Go.Proofs.Ytfhoblchgeijkaa

/-! part Jd -/
namespace Go.Proofs.Ytfhoblchgeijkaa
open Go.RowKit Go.Maps
variable {W w : World} {L T : List Seg} {S : Seg}

/-- The number of a list of bytes, the highest first. -/
def numB (l : List UInt8) : UInt64 := l.foldl (fun v c => v <<< 8 ||| c.toUInt64) 0
theorem numB_snoc (l : List UInt8) (c : UInt8) : numB (l ++ [c]) = numB l <<< 8 ||| c.toUInt64 := by simp [numB]
/-- The short word: zeros behind it. -/
def wordS (l : List UInt8) : UInt64 := numB (l ++ List.replicate (8 - l.length) 0)
def shN (x : UInt64) (k : Nat) : UInt64 := x <<< UInt64.ofNat k
theorem shN_add (x : UInt64) (a b : Nat) (h : a + b < 64) : shN (shN x a) b = shN x (a + b) := by
  unfold shN
  apply UInt64.toNat_inj.1
  rw [UInt64.toNat_shiftLeft, UInt64.toNat_shiftLeft, UInt64.toNat_shiftLeft, UInt64.toNat_ofNat', UInt64.toNat_ofNat', UInt64.toNat_ofNat', show a % 2 ^ 64 % 64 = a by omega, show b % 2 ^ 64 % 64 = b by omega, show (a + b) % 2 ^ 64 % 64 = a + b by omega,
    Nat.shiftLeft_eq, Nat.shiftLeft_eq, Nat.shiftLeft_eq, Nat.mod_mul_mod, Nat.mul_assoc, ← Nat.pow_add]
theorem shN_or (x y : UInt64) (a : Nat) : shN (x ||| y) a = shN x a ||| shN y a := by
  unfold shN
  exact UInt64.shiftLeft_or
theorem shN_zero (a : Nat) : shN 0 a = 0 := by unfold shN; exact UInt64.zero_shiftLeft
theorem shN_none (x : UInt64) : shN x 0 = x := by unfold shN; exact UInt64.shiftLeft_zero
theorem numB_zeros (l : List UInt8) : ∀ k, 8 * k < 64 → numB (l ++ List.replicate k 0) = shN (numB l) (8 * k)
  | 0, _ => by simp [shN_none]
  | k + 1, h => by
    rw [List.replicate_succ', ← List.append_assoc, numB_snoc, numB_zeros l k (by omega)]
    have : shN (numB l) (8 * k) <<< 8 = shN (shN (numB l) (8 * k)) 8 := rfl
    rw [this, shN_add _ _ _ (by omega)]
    simp [Nat.mul_succ]
theorem wordS_eq (l : List UInt8) (h : l.length < 8) (h0 : 0 < l.length) : wordS l = shN (numB l) (64 - 8 * l.length) := by
  unfold wordS
  rw [numB_zeros l _ (by omega)]
  congr 1; omega
theorem wordS_nil : wordS [] = 0 := by decide
/-- The reference's short word, byte by byte. -/
def refW (l : List UInt8) : UInt64 := if l = [] then 0 else shN (numB l) (64 - 8 * l.length)
theorem refW_snoc (l : List UInt8) (c : UInt8) (h : l.length < 8) : refW (l ++ [c]) = refW l ||| shN c.toUInt64 (56 - 8 * l.length) := by
  unfold refW
  rw [if_neg (by simp)]
  have e : 64 - 8 * (l ++ [c]).length = 56 - 8 * l.length := by simp; omega
  rw [e, numB_snoc]
  by_cases h0 : l = []
  · subst h0
    simp [numB]
  · rw [if_neg h0]
    have hl : 0 < l.length := List.length_pos_iff.2 h0
    have e1 : numB l <<< 8 = shN (numB l) 8 := rfl
    rw [shN_or, e1, shN_add _ _ _ (by omega)]
    congr 2
    omega
theorem refW_word (l : List UInt8) (h : l.length < 8) : refW l = wordS l := by
  unfold refW
  by_cases h0 : l = []
  · subst h0; rw [if_pos rfl, wordS_nil]
  · rw [if_neg h0, wordS_eq l h (List.length_pos_iff.2 h0)]
end Go.Proofs.Ytfhoblchgeijkaa

/-! part Je -/
namespace Go.Proofs.Ytfhoblchgeijkaa
open Go.RowKit Go.Maps
variable {W w : World} {L T : List Seg} {S : Seg}

theorem shN_val (x : UInt8) (m : Nat) (h : m < 64) : IntKind.u64.wrap ((x.toNat : Int) * 2 ^ m) = ((shN x.toUInt64 m).toNat : Int) := by
  have := sh8 x (UInt64.ofNat m) (2 ^ m) (by rw [UInt64.toNat_ofNat', show m % 2 ^ 64 % 64 = m by omega])
  rw [Int.natCast_pow] at this
  exact this

set_option maxRecDepth 100000 in
set_option maxHeartbeats 1600000 in
theorem word_ref_short {A : Option Addr} {c : Nat} {l : List UInt8} (h : H W w L) (hr : RS L 1 (.slice A l.length c) l.length (u8s l)) (hl : l.length < 8) :
    Calls Try.prog 90 #[.slice A l.length c] w (PWord (wordS l) W L) := by
  have hw8 := w8id
  have g1 : decide ((8 : Int) ≤ (l.length : Int)) = false := by simp; omega
  have h' := Lib.hid h
  have hr' := Lib.hid hr
  clear h hr
  go_enter Try.func90, Try.ntmps90
  go_wp2_with fail
  go_loopw [3, 4] (fun v i wr => ∃ k : Nat, k ≤ l.length ∧ i = .int .i64 k ∧ v = .int .u64 (refW (l.take k)).toNat ∧ wr = w) (fun _ i _ => l.length - (intOf i).toNat)
  case atStart => exact ⟨0, Nat.zero_le _, rfl, rfl, rfl⟩
  case round =>
    obtain ⟨k, hk, rfl, rfl, rfl⟩ := hrel
    by_cases hlt : k < l.length
    · have hki : (k : Int) < (l.length : Int) := by omega
      obtain ⟨g, o, rfl, hcell⟩ := hr'.out.get (by omega)
      have c0 : wr.cell? ⟨g, o + k, none⟩ = some (.int .u8 (l[k]).toNat) := hcell W wr h'.out k _ (by simp [u8s, hlt])
      clear hcell
      go_wp2_with fail
      refine ⟨⟨k + 1, by omega, by go_num, ?_, trivial⟩, by simp [intOf]; omega⟩
      have hlk : (l.take k).length = k := by rw [List.length_take]; omega
      have ht : l.take (k + 1) = l.take k ++ [l[k]] := by rw [List.take_add_one, List.getElem?_eq_getElem hlt]; rfl
      rw [ht, refW_snoc _ _ (by omega), hlk, shN_val _ _ (by omega), w64_or]
    · have hkn : k = l.length := by omega
      go_wp2_with fail
      go_ret
      refine ⟨?_, h'.out⟩
      rw [hkn, List.take_length, refW_word l hl]
      rfl
end Go.Proofs.Ytfhoblchgeijkaa

/-! part Jf -/
namespace Go.Proofs.Ytfhoblchgeijkaa
open Go.RowKit Go.Maps
variable {W w : World} {L T : List Seg} {S : Seg}

theorem numB_val (v : UInt64) (c : UInt8) : bits .or .u64 (IntKind.u64.wrap ((v.toNat : Int) * 256)) (c.toNat : Int) = ((v <<< 8 ||| c.toUInt64).toNat : Int) := by
  have h1 : IntKind.u64.wrap ((v.toNat : Int) * 256) = _ := w64_shl v 8 256 (by decide)
  have h2 : (c.toNat : Int) = (c.toUInt64.toNat : Int) := by rw [UInt8.toNat_toUInt64]
  rw [h1, h2, w64_or]

theorem run_index95 (cs : Array Value) (k : Nat) (u : Value) (hk : k < 8) (hu : cs[k]? = some u) (w : World) : (Instr.index 95 (.agg cs) (.int .i64 (k : Int))).run Try.prog w = .ok u w := by
  have h1 : (0 : Int) ≤ (k : Int) ∧ (k : Int) < 8 := by omega
  obtain ⟨hk2, rfl⟩ := Array.getElem?_eq_some_iff.1 hu
  simp [Instr.index, asIntOf, run_underlying Try.underlying95, h1, go_sem, Try.sizeOf5, hk2]
  intro h2; omega

set_option maxRecDepth 100000 in
set_option maxHeartbeats 1600000 in
theorem number_pro8 {b0 b1 b2 b3 b4 b5 b6 b7 : UInt8} (h : H W w L) :
    Calls Try.prog 104 #[.agg #[.int .u8 b0.toNat, .int .u8 b1.toNat, .int .u8 b2.toNat, .int .u8 b3.toNat, .int .u8 b4.toNat, .int .u8 b5.toNat, .int .u8 b6.toNat, .int .u8 b7.toNat]] w (PWord (numB [b0, b1, b2, b3, b4, b5, b6, b7]) W L) := by
  have hw8 := w8id
  have hnv := numB_val
  have h' := Lib.hid (h.alloc (.cells #[.int .u8 b0.toNat, .int .u8 b1.toNat, .int .u8 b2.toNat, .int .u8 b3.toNat, .int .u8 b4.toNat, .int .u8 b5.toNat, .int .u8 b6.toNat, .int .u8 b7.toNat] 95))
  clear h
  go_enter Try.func104, Try.ntmps104
  go_wp2_with fail
  go_loopw [3, 7] (fun v i wr => ∃ k : Nat, k ≤ 8 ∧ i = .int .i64 k ∧ v = .int .u64 (numB ([b0, b1, b2, b3, b4, b5, b6, b7].take k)).toNat ∧ H W wr L) (fun _ i _ => 8 - (intOf i).toNat)
  case atStart => exact ⟨0, Nat.zero_le _, rfl, rfl, h'.out.drop⟩
  case round =>
    obtain ⟨k, hk, rfl, rfl, hw⟩ := hrel
    have hw' := Lib.hid hw
    clear hw h'
    by_cases hlt : k < 8
    · have hki : (k : Int) < 8 := by omega
      obtain ⟨c, hc⟩ : ∃ c : UInt8, [b0, b1, b2, b3, b4, b5, b6, b7][k]? = some c := ⟨_, List.getElem?_eq_getElem (by simpa using hlt)⟩
      have hsn : numB ([b0, b1, b2, b3, b4, b5, b6, b7].take (k + 1)) = numB ([b0, b1, b2, b3, b4, b5, b6, b7].take k) <<< 8 ||| c.toUInt64 := by
        rw [List.take_add_one, hc]
        exact numB_snoc _ _
      have hix : ∀ w, (Instr.index 95 (.agg #[.int .u8 b0.toNat, .int .u8 b1.toNat, .int .u8 b2.toNat, .int .u8 b3.toNat, .int .u8 b4.toNat, .int .u8 b5.toNat, .int .u8 b6.toNat, .int .u8 b7.toNat]) (.int .i64 (k : Int))).run Try.prog w = .ok (.int .u8 c.toNat) w :=
        run_index95 _ k _ hlt (by
          show (u8s [b0, b1, b2, b3, b4, b5, b6, b7]).toArray[k]? = _
          rw [List.getElem?_toArray]
          unfold u8s
          rw [List.getElem?_map, hc]; rfl)
      generalize hq : numB (List.take k [b0, b1, b2, b3, b4, b5, b6, b7]) = q at *
      have hsn' := Lib.hid hsn
      clear hq hsn hc
      go_wp2_with fail
      refine ⟨⟨k + 1, by omega, by go_num, ?_, hw'.out⟩, by simp [intOf]; omega⟩
      rw [hsn'.out, UInt64.toNat_or, UInt64.toNat_shiftLeft, UInt8.toNat_toUInt64]
      rfl
    · have hkn : k = 8 := by omega
      subst hkn
      go_wp2_with fail
      go_ret
      exact ⟨rfl, hw'.out⟩
end Go.Proofs.Ytfhoblchgeijkaa

/-! part Jg -/
namespace Go.Proofs.Ytfhoblchgeijkaa
open Go.RowKit Go.Maps
variable {W w : World} {L T : List Seg} {S : Seg} {P : Program}

/-- copy into a block of any type (an array's). -/
theorem H.copyD {D E t T' : TypeId} {size bytes : Nat} {xs : List Value} {g : Nat} {cur : Array Value} (et : ET P t E size bytes) (h : H W w ([(g, .cells cur D (0, 0))] :: L)) {off dl dc m : Nat} {vs : Value} (hr : RS ([(g, .cells cur D (0, 0))] :: L) size vs m xs)
    (h1 : ∀ u ∈ xs, u.oneCell' = true) (hfit : off + min m dl * size ≤ cur.size) (ty : TypeId) :
    ∃ w', (Builtin.copy_ #[t, T'] ty #[.slice (some ⟨g, off, none⟩) dl dc, vs]).run P w = .ok (goInt (min m dl : Nat)) w' ∧
      H W w' ([(g, .cells (spl cur.toList off (xs.take (min m dl * size))).toArray D (0, 0))] :: L) := by
  obtain ⟨i0, z, ht, hi, hz0, hz1, hz2, hzs, hsz⟩ := et
  obtain ⟨A1, c1, rfl⟩ := hr.form
  have hlen : (xs.take (min m dl * size)).length = min m dl * size := by
    rw [List.length_take, hr.1]; exact Nat.min_eq_left (Nat.mul_le_mul_right _ (Nat.min_le_left _ _))
  obtain ⟨w', hs, hH⟩ := h.stores (P := P) (off := off) (xs.take (min m dl * size)) (by rw [hlen]; exact hfit) (fun u hu => h1 u (List.mem_of_mem_take hu))
  refine ⟨w', ?_, hH⟩
  have hload : (Builtin.firstCells i0.size (min m dl) (.slice A1 m c1)).run P w = .ok (xs.take (min m dl * size)).toArray w := by
    cases A1 with
    | none =>
      rcases hr.2 with ⟨h0, _⟩ | ⟨b, o, c, _, _, _, hx, _⟩
      · subst h0; simp [Builtin.firstCells]
      · simp at hx
    | some a =>
      simp only [Builtin.firstCells]
      have := run_loadCells_list (P := P) (w := w) a (xs.take (min m dl * size)) (hr.take (W := W) (min m dl) (Nat.min_le_left _ _) a m c1 rfl w h)
      rw [hlen] at this
      rw [hz1]; exact this
  simp [Builtin.copy_, run_underlying ht, sizeOf, typeInfo, hi, Builtin.lenOf, hload, hs]

theorem len8 : ∀ p : List UInt8, p.length = 8 → ∃ b0 b1 b2 b3 b4 b5 b6 b7, p = [b0, b1, b2, b3, b4, b5, b6, b7]
  | [b0, b1, b2, b3, b4, b5, b6, b7], _ => ⟨b0, b1, b2, b3, b4, b5, b6, b7, rfl⟩
theorem pad_cells {l : List UInt8} (hl : l.length < 8) : spl (u8s [0, 0, 0, 0, 0, 0, 0, 0]) 0 ((u8s l).take (min l.length 8 * 1)) = u8s (l ++ List.replicate (8 - l.length) 0) := by
  have e : ([0, 0, 0, 0, 0, 0, 0, 0] : List UInt8) = List.replicate 8 0 := rfl
  have e2 : (u8s l).take (min l.length 8 * 1) = u8s l := by rw [List.take_of_length_le]; simp [u8s]; omega
  rw [e2, e]
  have e3 : u8s (List.replicate 8 0) = List.replicate 8 (.int .u8 0) := rfl
  unfold spl
  rw [e3, Nat.zero_add, List.drop_replicate, List.take_zero, List.nil_append]
  simp [u8s]

set_option maxRecDepth 100000 in
set_option maxHeartbeats 1600000 in
theorem word_pro_short {A : Option Addr} {c : Nat} {l : List UInt8} (h : H W w L) (hr : RS L 1 (.slice A l.length c) l.length (u8s l)) (hl : l.length < 8) :
    Calls Try.prog 87 #[.slice A l.length c] w (PWord (wordS l) W L) := by
  have g1 : decide ((8 : Int) ≤ (l.length : Int)) = false := by simp; omega
  obtain ⟨w2, h1, h2⟩ := H.copyD (T' := 27) (t := 27) (off := 0) (dl := 8) (dc := 8) et27 (h.alloc (.cells #[.int .u8 0, .int .u8 0, .int .u8 0, .int .u8 0, .int .u8 0, .int .u8 0, .int .u8 0, .int .u8 0] 95)) (hr.cons _) (u8s_one l) (by simp; omega) 3
  obtain ⟨b0, b1, b2, b3, b4, b5, b6, b7, hp⟩ := len8 (l ++ List.replicate (8 - l.length) 0) (by simp; omega)
  have hpc := pad_cells hl
  rw [hp] at hpc
  have h3 : H W w2 ([(w.heap.size, .cells #[.int .u8 b0.toNat, .int .u8 b1.toNat, .int .u8 b2.toNat, .int .u8 b3.toNat, .int .u8 b4.toNat, .int .u8 b5.toNat, .int .u8 b6.toNat, .int .u8 b7.toNat] 95 (0, 0))] :: L) := by
    have h4 : H W w2 ([(w.heap.size, .cells (spl (u8s [0, 0, 0, 0, 0, 0, 0, 0]) 0 ((u8s l).take (min l.length 8 * 1))).toArray 95 (0, 0))] :: L) := h2
    rw [hpc] at h4
    exact h4
  have x0 := h3.cellAt 0 0 0 rfl rfl rfl
  have x1 := h3.cellAt 0 0 1 rfl rfl rfl
  have x2 := h3.cellAt 0 0 2 rfl rfl rfl
  have x3 := h3.cellAt 0 0 3 rfl rfl rfl
  have x4 := h3.cellAt 0 0 4 rfl rfl rfl
  have x5 := h3.cellAt 0 0 5 rfl rfl rfl
  have x6 := h3.cellAt 0 0 6 rfl rfl rfl
  have x7 := h3.cellAt 0 0 7 rfl rfl rfl
  have hws : wordS l = numB [b0, b1, b2, b3, b4, b5, b6, b7] := by unfold wordS; rw [hp]
  rw [hws]
  have h3' := Lib.hid h3
  clear h hr h2 h3 hp hpc hws
  go_enter Try.func87, Try.ntmps87
  go_wp2_with fail
  refine (number_pro8 h3'.out.drop).mono ?_
  rintro e w9 ⟨rfl, h9⟩
  have h9' := Lib.hid h9
  clear h9
  go_wp2_with fail
  go_ret
  exact ⟨rfl, h9'.out⟩
end Go.Proofs.Ytfhoblchgeijkaa

/-! part Jh -/
namespace Go.Proofs.Ytfhoblchgeijkaa
open Go.RowKit Go.Maps
variable {W w : World} {L T : List Seg} {S : Seg}

/-- The first word of a row of bytes. -/
def wordV : List UInt8 → UInt64
  | b0 :: b1 :: b2 :: b3 :: b4 :: b5 :: b6 :: b7 :: _ => word8 b0 b1 b2 b3 b4 b5 b6 b7
  | l => wordS l
theorem wordV_short {l : List UInt8} (h : l.length < 8) : wordV l = wordS l := by
  unfold wordV
  split
  · simp at h; omega
  · rfl
theorem wordV_long {l : List UInt8} (h : 8 ≤ l.length) : ∃ b0 b1 b2 b3 b4 b5 b6 b7 r, l = b0 :: b1 :: b2 :: b3 :: b4 :: b5 :: b6 :: b7 :: r ∧ wordV l = word8 b0 b1 b2 b3 b4 b5 b6 b7 := by
  match l, h with
  | b0 :: b1 :: b2 :: b3 :: b4 :: b5 :: b6 :: b7 :: r, _ => exact ⟨b0, b1, b2, b3, b4, b5, b6, b7, r, rfl, rfl⟩

theorem word_any_of (f : FuncId) {A : Option Addr} {c : Nat} {l : List UInt8} (h : H W w L) (hr : RS L 1 (.slice A l.length c) l.length (u8s l))
    (hs : l.length < 8 → Calls Try.prog f #[.slice A l.length c] w (PWord (wordS l) W L))
    (hl : ∀ (g o n c : Nat) (b0 b1 b2 b3 b4 b5 b6 b7 : UInt8), 8 ≤ n → w.cell? ⟨g, o, none⟩ = some (.int .u8 b0.toNat) → w.cell? ⟨g, o + 1, none⟩ = some (.int .u8 b1.toNat) → w.cell? ⟨g, o + 2, none⟩ = some (.int .u8 b2.toNat) →
      w.cell? ⟨g, o + 3, none⟩ = some (.int .u8 b3.toNat) → w.cell? ⟨g, o + 4, none⟩ = some (.int .u8 b4.toNat) → w.cell? ⟨g, o + 5, none⟩ = some (.int .u8 b5.toNat) → w.cell? ⟨g, o + 6, none⟩ = some (.int .u8 b6.toNat) → w.cell? ⟨g, o + 7, none⟩ = some (.int .u8 b7.toNat) →
      Calls Try.prog f #[.slice (some ⟨g, o, none⟩) n c] w (PWord (word8 b0 b1 b2 b3 b4 b5 b6 b7) W L)) :
    Calls Try.prog f #[.slice A l.length c] w (PWord (wordV l) W L) := by
  by_cases h8 : l.length < 8
  · rw [wordV_short h8]; exact hs h8
  · obtain ⟨b0, b1, b2, b3, b4, b5, b6, b7, r, he, hw⟩ := wordV_long (show 8 ≤ l.length by omega)
    obtain ⟨g, o, rfl, hc⟩ := hr.get (by omega)
    rw [hw]
    have hx := hc W w h
    rw [he] at hx
    exact hl g o _ c b0 b1 b2 b3 b4 b5 b6 b7 (by omega) (hx 0 _ rfl) (hx 1 _ rfl) (hx 2 _ rfl) (hx 3 _ rfl) (hx 4 _ rfl) (hx 5 _ rfl) (hx 6 _ rfl) (hx 7 _ rfl)
theorem word_ref {A : Option Addr} {c : Nat} {l : List UInt8} (h : H W w L) (hr : RS L 1 (.slice A l.length c) l.length (u8s l)) : Calls Try.prog 90 #[.slice A l.length c] w (PWord (wordV l) W L) :=
  word_any_of 90 h hr (word_ref_short h hr) fun _ _ _ _ _ _ _ _ _ _ _ _ hn c0 c1 c2 c3 c4 c5 c6 c7 => word_ref8 h hn c0 c1 c2 c3 c4 c5 c6 c7
theorem word_pro {A : Option Addr} {c : Nat} {l : List UInt8} (h : H W w L) (hr : RS L 1 (.slice A l.length c) l.length (u8s l)) : Calls Try.prog 87 #[.slice A l.length c] w (PWord (wordV l) W L) :=
  word_any_of 87 h hr (word_pro_short h hr) fun _ _ _ _ _ _ _ _ _ _ _ _ hn c0 c1 c2 c3 c4 c5 c6 c7 => word_pro8 h hn c0 c1 c2 c3 c4 c5 c6 c7
end Go.Proofs.Ytfhoblchgeijkaa

/-! part Ji -/
namespace Go.Proofs.Ytfhoblchgeijkaa
open Go.RowKit Go.Maps
variable {W w : World} {L T : List Seg} {S : Seg}

/-- b[i:], not empty. -/
theorem slice_from {g o c i : Nat} {l : List UInt8} (hr : RS L 1 (.slice (some ⟨g, o, none⟩) l.length c) l.length (u8s l)) (hi : i < l.length) (hc : l.length ≤ c) :
    (∀ (x : Int) w, x = (i : Int) → (Instr.slice 27 (.slice (some ⟨g, o, none⟩) l.length c) (some (.int .i64 x)) none none).run Try.prog w = .ok (.slice (some ⟨g, o + i, none⟩) (l.drop i).length (c - i)) w) ∧
      RS L 1 (.slice (some ⟨g, o + i, none⟩) (l.drop i).length (c - i)) (l.drop i).length (u8s (l.drop i)) := by
  refine ⟨?_, by simp [u8s], ?_⟩
  · intro x w hx
    subst hx
    have e3 : (sizeOf 5).run Try.prog w = .ok 1 w := by kernel_rfl
    have h1 : i ≤ l.length := by omega
    have h2 : ¬ c = i := by omega
    simp [Instr.slice, run_underlying Try.underlying27, Instr.sliceBounds, Instr.sliceBound, asIntOf, h1, e3, Addr.add, h2]
  · rcases hr.2 with ⟨h0, _⟩ | ⟨g', o', cap', cur, E, fr, h1, h2, h3⟩
    · omega
    · simp only [Value.slice.injEq, Option.some.injEq, Addr.mk.injEq] at h1
      obtain ⟨⟨rfl, rfl, _⟩, _, rfl⟩ := h1
      refine .inr ⟨g, o + i, c - i, cur, E, fr, rfl, h2, fun j u hu => ?_⟩
      have := h3 (i + j) u (by
        simp only [u8s, List.getElem?_map, List.getElem?_drop] at hu ⊢
        exact hu)
      rw [Nat.add_assoc]; exact this

def mixS (s : UInt64 × UInt64) : UInt64 × UInt64 := (mixC s.1 s.2, mixB s.1 s.2)
def roundS (l : List UInt8) (k : Nat) (s : UInt64 × UInt64) : UInt64 × UInt64 := mixS (mixS (s.1 ^^^ wordV (l.drop (8 * k)), s.2))
def stH (l : List UInt8) : Nat → UInt64 × UInt64
  | 0 => (2611923443488327891, 1376283091369227076)
  | k + 1 => roundS l k (stH l k)
def mixN (s : UInt64 × UInt64) : Nat → UInt64 × UInt64
  | 0 => s
  | k + 1 => mixS (mixN s k)
/-- The number whose bytes the hash is. -/
def sumV (l : List UInt8) : UInt64 :=
  let s := stH l ((l.length + 7) / 8)
  let q := mixN (s.1, s.2 ^^^ UInt64.ofNat l.length) 4
  q.1 ^^^ q.2
theorem mix_ref' (s : UInt64 × UInt64) (w : World) : Calls Try.prog 91 #[.int .u64 s.1.toNat, .int .u64 s.2.toNat] w fun e w' => e = .returned (.tuple #[.int .u64 (mixS s).1.toNat, .int .u64 (mixS s).2.toNat]) ∧ w = w' := mix_ref s.1 s.2 w

set_option maxRecDepth 100000 in
set_option maxHeartbeats 3200000 in
theorem sum_ref {A : Option Addr} {c : Nat} {l : List UInt8} (h : H W w L) (hr : RS L 1 (.slice A l.length c) l.length (u8s l)) (hc : l.length ≤ c) (hl : l.length ≤ 1099511627776) :
    Calls Try.prog 83 #[.slice A l.length c] w (POf (sumV l) W L) := by
  have hz := Lib.hid (h.alloc (.cells #[.int .u8 0, .int .u8 0, .int .u8 0, .int .u8 0, .int .u8 0, .int .u8 0, .int .u8 0, .int .u8 0] 95))
  have hr' := Lib.hid hr
  clear h hr
  go_enter Try.func83, Try.ntmps83
  go_wp2_with fail
  go_loopw [3, 4, 5] (fun a b i wr => ∃ k I : Nat, I = 8 * k ∧ I < l.length + 8 ∧ i = .int .i64 I ∧ a = .int .u64 (stH l k).1.toNat ∧ b = .int .u64 (stH l k).2.toNat ∧ H W wr ([(w.heap.size, .cells #[.int .u8 0, .int .u8 0, .int .u8 0, .int .u8 0, .int .u8 0, .int .u8 0, .int .u8 0, .int .u8 0] 95 (0, 0))] :: L)) (fun _ _ i _ => l.length + 8 - (intOf i).toNat)
  case atStart => exact ⟨0, 0, rfl, by omega, rfl, rfl, rfl, hz.out⟩
  case round =>
    obtain ⟨k, I, hI, hk, rfl, rfl, rfl, hw⟩ := hrel
    have hw' := Lib.hid hw
    have hI' := Lib.hid hI
    clear hw hz hI
    obtain ⟨x, y, hxy⟩ : ∃ x y, stH l k = (x, y) := ⟨_, _, rfl⟩
    rw [hxy]
    have hxy' := Lib.hid hxy
    clear hxy
    by_cases hlt : I < l.length
    · have hki : (I : Int) < (l.length : Int) := by omega
      obtain ⟨g, o, rfl, _⟩ := hr'.out.get (by omega)
      obtain ⟨hs, hq⟩ := slice_from hr'.out hlt hc
      obtain ⟨q, hqd⟩ : ∃ q, l.drop I = q := ⟨_, rfl⟩
      rw [hqd] at hs hq
      have hs' := fun w => hs I w rfl
      have hq' := Lib.hid hq
      have hqd' := Lib.hid hqd
      obtain ⟨z, hzx⟩ : ∃ z, z = x ^^^ wordV q := ⟨_, rfl⟩
      have hxor := w64_xor x (wordV q)
      rw [← hzx] at hxor
      have hzx' := Lib.hid hzx
      clear hs hq hqd hzx
      go_wp2_with fail
      refine (word_ref hw'.out (hq'.out.cons _)).mono ?_
      rintro e w1 ⟨rfl, h1⟩
      have h1' := Lib.hid h1
      clear h1
      go_wp2_with fail
      refine (mix_ref z y w1).mono ?_
      rintro e w2 ⟨rfl, rfl⟩
      go_wp2_with fail
      refine (mix_ref (mixC z y) (mixB z y) w1).mono ?_
      rintro e w2 ⟨rfl, rfl⟩
      have hst : stH l (k + 1) = (mixC (mixC z y) (mixB z y), mixB (mixC z y) (mixB z y)) := by
        show roundS l k (stH l k) = _
        rw [hxy'.out, hzx'.out]
        unfold roundS
        rw [← hI'.out, hqd'.out]
        rfl
      have hst' := Lib.hid hst
      clear hst
      go_wp2_with fail
      refine ⟨⟨k + 1, I + 8, by rw [hI'.out]; omega, by omega, by go_num, by rw [hst'.out], by rw [hst'.out], h1'.out⟩, by simp [intOf]; omega⟩
    · have hki : ¬ (I : Int) < (l.length : Int) := by omega
      have hkk : k = (l.length + 7) / 8 := by have := hI'.out; omega
      obtain ⟨N, hN⟩ : ∃ N, N = UInt64.ofNat l.length := ⟨_, rfl⟩
      have hlw : (N.toNat : Int) = (l.length : Int) := by
        rw [hN, UInt64.toNat_ofNat']; omega
      obtain ⟨z, hzx⟩ : ∃ z, z = y ^^^ N := ⟨_, rfl⟩
      have hxor := w64_xor y N
      rw [← hzx, hlw] at hxor
      have hsv : sumV l = (mixN (x, z) 4).1 ^^^ (mixN (x, z) 4).2 := by
        unfold sumV
        rw [← hkk, hxy'.out, hzx, hN]
      have hsv' := Lib.hid hsv
      rw [hsv]
      have hw2 := Lib.hid hw'.out
      clear hsv hzx hw' hr' hN hlw
      go_wp2_with fail
      go_loopw [3, 4, 6] (fun a b i wr => ∃ j : Nat, j ≤ 4 ∧ i = .int .i64 j ∧ a = .int .u64 (mixN (x, z) j).1.toNat ∧ b = .int .u64 (mixN (x, z) j).2.toNat ∧ H W wr ([(w.heap.size, .cells #[.int .u8 0, .int .u8 0, .int .u8 0, .int .u8 0, .int .u8 0, .int .u8 0, .int .u8 0, .int .u8 0] 95 (0, 0))] :: L)) (fun _ _ i _ => 4 - (intOf i).toNat)
      case atStart => exact ⟨0, by omega, rfl, rfl, rfl, hw2.out⟩
      case round =>
        obtain ⟨j, hj, rfl, rfl, rfl, hw3⟩ := hrel
        have hw3' := Lib.hid hw3
        clear hw3 hw2
        obtain ⟨p, r, hpr⟩ : ∃ p r, mixN (x, z) j = (p, r) := ⟨_, _, rfl⟩
        rw [hpr]
        have hpr' := Lib.hid hpr
        clear hpr
        by_cases hjt : j < 4
        · have hji : (j : Int) < 4 := by omega
          go_wp2_with fail
          refine (mix_ref p r _).mono ?_
          rintro e w2 ⟨rfl, rfl⟩
          have hst := Lib.hid (show mixN (x, z) (j + 1) = (mixC p r, mixB p r) by show mixS (mixN (x, z) j) = _; rw [hpr'.out]; rfl)
          go_wp2_with fail
          refine ⟨⟨j + 1, by omega, by go_num, by rw [hst.out], by rw [hst.out], hw3'.out⟩, by simp [intOf]; omega⟩
        · have hj4 : j = 4 := by omega
          subst hj4
          rw [hsv'.out, hpr'.out]
          obtain ⟨u, hu⟩ : ∃ u, u = p ^^^ r := ⟨_, rfl⟩
          have hxu := w64_xor p r
          show Code.wp _ _ _ _ _
          rw [← hu] at hxu ⊢
          have hu' := Lib.hid hu
          clear hu
          go_wp2_with fail
          refine (of_ref u hw3'.out).mono ?_
          rintro e w4 ⟨rfl, h4⟩
          have h4' := Lib.hid h4
          clear h4
          have y0 := h4'.out.freeAt 0 0 0 rfl rfl
          have y1 := h4'.out.freeAt 0 0 1 rfl rfl
          have y2 := h4'.out.freeAt 0 0 2 rfl rfl
          have y3 := h4'.out.freeAt 0 0 3 rfl rfl
          have y4 := h4'.out.freeAt 0 0 4 rfl rfl
          have y5 := h4'.out.freeAt 0 0 5 rfl rfl
          have y6 := h4'.out.freeAt 0 0 6 rfl rfl
          have y7 := h4'.out.freeAt 0 0 7 rfl rfl
          have c0 := h4'.out.cellAt 0 0 0 rfl rfl rfl
          have c1 := h4'.out.cellAt 0 0 1 rfl rfl rfl
          have c2 := h4'.out.cellAt 0 0 2 rfl rfl rfl
          have c3 := h4'.out.cellAt 0 0 3 rfl rfl rfl
          have c4 := h4'.out.cellAt 0 0 4 rfl rfl rfl
          have c5 := h4'.out.cellAt 0 0 5 rfl rfl rfl
          have c6 := h4'.out.cellAt 0 0 6 rfl rfl rfl
          have c7 := h4'.out.cellAt 0 0 7 rfl rfl rfl
          have hcs := ofB_cells u
          obtain ⟨t0, t1, t2, t3, t4, t5, t6, t7, hv⟩ : ∃ t0 t1 t2 t3 t4 t5 t6 t7, (u8s (ofB u)).toArray = #[.int .u8 t0, .int .u8 t1, .int .u8 t2, .int .u8 t3, .int .u8 t4, .int .u8 t5, .int .u8 t6, .int .u8 t7] := ⟨_, _, _, _, _, _, _, _, hcs⟩
          clear hcs
          rw [hv]
          have hv' := Lib.hid hv
          clear hv
          go_wp2_with fail
          have hf : H W ((((((((w4.setCell ⟨w.heap.size, 0, none⟩ (.int .u8 t0)).setCell ⟨w.heap.size, 1, none⟩ (.int .u8 t1)).setCell ⟨w.heap.size, 2, none⟩ (.int .u8 t2)).setCell ⟨w.heap.size, 3, none⟩ (.int .u8 t3)).setCell ⟨w.heap.size, 4, none⟩ (.int .u8 t4)).setCell ⟨w.heap.size, 5, none⟩ (.int .u8 t5)).setCell ⟨w.heap.size, 6, none⟩ (.int .u8 t6)).setCell ⟨w.heap.size, 7, none⟩ (.int .u8 t7)) ([(w.heap.size, .cells #[.int .u8 t0, .int .u8 t1, .int .u8 t2, .int .u8 t3, .int .u8 t4, .int .u8 t5, .int .u8 t6, .int .u8 t7] 95 (0, 0))] :: L) := by
            have hf := (((((((h4'.out.setCell 0 (.int .u8 t0)).setCell 1 (.int .u8 t1)).setCell 2 (.int .u8 t2)).setCell 3 (.int .u8 t3)).setCell 4 (.int .u8 t4)).setCell 5 (.int .u8 t5)).setCell 6 (.int .u8 t6)).setCell 7 (.int .u8 t7)
            simpa using hf
          generalize ((((((((w4.setCell ⟨w.heap.size, 0, none⟩ (.int .u8 t0)).setCell ⟨w.heap.size, 1, none⟩ (.int .u8 t1)).setCell ⟨w.heap.size, 2, none⟩ (.int .u8 t2)).setCell ⟨w.heap.size, 3, none⟩ (.int .u8 t3)).setCell ⟨w.heap.size, 4, none⟩ (.int .u8 t4)).setCell ⟨w.heap.size, 5, none⟩ (.int .u8 t5)).setCell ⟨w.heap.size, 6, none⟩ (.int .u8 t6)).setCell ⟨w.heap.size, 7, none⟩ (.int .u8 t7)) = wz at hf ⊢
          have x0 : wz.cell? ⟨w.heap.size, 0, none⟩ = some (.int .u8 t0) := hf.cellAt 0 0 0 rfl rfl rfl
          have x1 : wz.cell? ⟨w.heap.size, 1, none⟩ = some (.int .u8 t1) := hf.cellAt 0 0 1 rfl rfl rfl
          have x2 : wz.cell? ⟨w.heap.size, 2, none⟩ = some (.int .u8 t2) := hf.cellAt 0 0 2 rfl rfl rfl
          have x3 : wz.cell? ⟨w.heap.size, 3, none⟩ = some (.int .u8 t3) := hf.cellAt 0 0 3 rfl rfl rfl
          have x4 : wz.cell? ⟨w.heap.size, 4, none⟩ = some (.int .u8 t4) := hf.cellAt 0 0 4 rfl rfl rfl
          have x5 : wz.cell? ⟨w.heap.size, 5, none⟩ = some (.int .u8 t5) := hf.cellAt 0 0 5 rfl rfl rfl
          have x6 : wz.cell? ⟨w.heap.size, 6, none⟩ = some (.int .u8 t6) := hf.cellAt 0 0 6 rfl rfl rfl
          have x7 : wz.cell? ⟨w.heap.size, 7, none⟩ = some (.int .u8 t7) := hf.cellAt 0 0 7 rfl rfl rfl
          have hsu : sumV l = u := by rw [hsv'.out, hpr'.out]; exact hu'.out.symm
          refine bodyPost_ret (v := .agg (u8s (ofB (sumV l))).toArray) ?_ rfl ⟨rfl, hf.drop⟩
          have hres : Try.f83.results = #[.cell 2 95] := by kernel_rfl
          rw [hsu, hv'.out]
          simp only [results, hres]
          go_simp
end Go.Proofs.Ytfhoblchgeijkaa

/-! part Jj -/
namespace Go.Proofs.Ytfhoblchgeijkaa
open Go.RowKit Go.Maps
variable {W w : World} {L T : List Seg} {S : Seg}

/-- The hash's state in a block of its own. -/
def sseg (p : Nat) (s : UInt64 × UInt64) : Seg := [(p, .cells #[.int .u64 s.1.toNat, .int .u64 s.2.toNat] 121 (0, 0))]
def PSt (W : World) (L : List Seg) (p : Nat) (s : UInt64 × UInt64) (e : Ending) (w' : World) : Prop := e = .returned (.tuple #[]) ∧ H W w' (sseg p s :: L)

set_option maxRecDepth 100000 in
set_option maxHeartbeats 3200000 in
theorem mix_pro {p : Nat} {s : UInt64 × UInt64} (n : Nat) (hn : n ≤ 100) (h : H W w (sseg p s :: L)) : Calls Try.prog 88 #[.pointer (some ⟨p, 0, none⟩), .int .i64 n] w (PSt W L p (mixN s n)) := by
  have h' := Lib.hid h
  clear h
  go_enter Try.func88, Try.ntmps88
  go_wp2_with fail
  go_loopw [5] (fun i wr => ∃ k : Nat, k ≤ n ∧ i = .int .i64 k ∧ H W wr (sseg p (mixN s k) :: L)) (fun i _ => n - (intOf i).toNat)
  case atStart => exact ⟨0, Nat.zero_le _, rfl, h'.out⟩
  case round =>
    obtain ⟨k, hk, rfl, hw⟩ := hrel
    by_cases hlt : k < n
    · have hki : (k : Int) < (n : Int) := by omega
      obtain ⟨x, y, hxy⟩ : ∃ x y, mixN s k = (x, y) := ⟨_, _, rfl⟩
      rw [hxy] at hw
      have hxy' := Lib.hid hxy
      have hz := Lib.hid (show H W wr ([(p, .cells #[.int .u64 x.toNat, .int .u64 y.toNat] 121 (0, 0))] :: L) from hw)
      have hA := mixA_eq x y
      clear hw hxy h'
      go_wp2_with fail
      refine wpF_start (S := (fun w' => w'.cell? ⟨p, 0, none⟩ = some (.int .u64 x.toNat) ∧ w'.cell? ⟨p, 1, none⟩ = some (.int .u64 y.toNat))) (fins := [11]) (by kernel_rfl) ?_ (fun hHeld => ?_)
      · exact ⟨hz.out.drew.cellAt 0 0 0 rfl rfl rfl, hz.out.drew.cellAt 0 0 1 rfl rfl rfl⟩
      refine wpF_take 0 (v := ?_) hHeld (by simp only [List.getElem?_toArray, List.getElem?_cons_zero]; exact rfl) (by kernel_rfl) (by exact fun _ _ _ h => h) (by rfl) ?_ ?_
      rotate_left
      · (intro w hSw; (try dsimp only at hSw); go_simp; try with_reducible rfl)
      try simp only [Act.put, List.setIfInBounds_toArray, List.set_cons_zero, List.set_cons_succ]
      refine wpF_take 1 (v := ?_) hHeld (by simp only [List.getElem?_toArray, List.getElem?_cons_succ, List.getElem?_cons_zero]; exact rfl) (by kernel_rfl) (by exact fun _ _ _ h => h) (by rfl) ?_ ?_
      rotate_left
      · (intro w hSw; (try dsimp only at hSw); go_simp; try with_reducible rfl)
      try simp only [Act.put, List.setIfInBounds_toArray, List.set_cons_zero, List.set_cons_succ]
      refine wpF_take 2 (v := ?_) hHeld (by simp only [List.getElem?_toArray, List.getElem?_cons_succ, List.getElem?_cons_zero]; exact rfl) (by kernel_rfl) (by exact fun _ _ _ h => h) (by rfl) ?_ ?_
      rotate_left
      · (intro w hSw; (try dsimp only at hSw); go_simp; try with_reducible rfl)
      try simp only [Act.put, List.setIfInBounds_toArray, List.set_cons_zero, List.set_cons_succ]
      refine wpF_take 3 (v := ?_) hHeld (by simp only [List.getElem?_toArray, List.getElem?_cons_succ, List.getElem?_cons_zero]; exact rfl) (by kernel_rfl) (by exact fun _ _ _ h => h) (by rfl) ?_ ?_
      rotate_left
      · (intro w hSw; (try dsimp only at hSw); go_simp; try with_reducible rfl)
      try simp only [Act.put, List.setIfInBounds_toArray, List.set_cons_zero, List.set_cons_succ]
      refine wpF_take 4 (v := ?_) hHeld (by simp only [List.getElem?_toArray, List.getElem?_cons_succ, List.getElem?_cons_zero]; exact rfl) (by kernel_rfl) (by exact fun _ _ _ h => h) (by rfl) ?_ ?_
      rotate_left
      · (intro w hSw; (try dsimp only at hSw); go_simp; try with_reducible rfl)
      try simp only [Act.put, List.setIfInBounds_toArray, List.set_cons_zero, List.set_cons_succ]
      refine wpF_take 5 (v := ?_) hHeld (by simp only [List.getElem?_toArray, List.getElem?_cons_succ, List.getElem?_cons_zero]; exact rfl) (by kernel_rfl) (by exact fun _ _ _ h => h) (by rfl) ?_ ?_
      rotate_left
      · (intro w hSw; (try dsimp only at hSw); go_simp; try with_reducible rfl)
      try simp only [Act.put, List.setIfInBounds_toArray, List.set_cons_zero, List.set_cons_succ]
      refine wpF_take 6 (v := ?_) hHeld (by simp only [List.getElem?_toArray, List.getElem?_cons_succ, List.getElem?_cons_zero]; exact rfl) (by kernel_rfl) (by exact fun _ _ _ h => h) (by rfl) ?_ ?_
      rotate_left
      · (intro w hSw; (try dsimp only at hSw); go_simp; try with_reducible rfl)
      try simp only [Act.put, List.setIfInBounds_toArray, List.set_cons_zero, List.set_cons_succ]
      refine wpF_take 7 (v := ?_) hHeld (by simp only [List.getElem?_toArray, List.getElem?_cons_succ, List.getElem?_cons_zero]; exact rfl) (by kernel_rfl) (by exact fun _ _ _ h => h) (by rfl) ?_ ?_
      rotate_left
      · (intro w hSw; (try dsimp only at hSw); go_simp; try with_reducible rfl)
      try simp only [Act.put, List.setIfInBounds_toArray, List.set_cons_zero, List.set_cons_succ]
      refine wpF_take 8 (v := ?_) hHeld (by simp only [List.getElem?_toArray, List.getElem?_cons_succ, List.getElem?_cons_zero]; exact rfl) (by kernel_rfl) (by exact fun _ _ _ h => h) (by rfl) ?_ ?_
      rotate_left
      · (intro w hSw; (try dsimp only at hSw); go_simp; try with_reducible rfl)
      try simp only [Act.put, List.setIfInBounds_toArray, List.set_cons_zero, List.set_cons_succ]
      refine wpF_one 9 (by simp only [List.getElem?_toArray, List.getElem?_cons_succ, List.getElem?_cons_zero]; exact rfl) (by kernel_rfl) (fun K hK => ?_)
      go_simp
      refine hK _ _ ?_ (fun hHeld => ?_)
      · exact hHeld
      clear hK K
      try simp only [Act.put, List.setIfInBounds_toArray, List.set_cons_zero, List.set_cons_succ]
      refine wpF_take 10 (v := ?_) hHeld (by simp only [List.getElem?_toArray, List.getElem?_cons_succ, List.getElem?_cons_zero]; exact rfl) (by kernel_rfl) (by exact fun _ _ _ h => h) (by rfl) ?_ ?_
      rotate_left
      · (intro w hSw; (try dsimp only at hSw); go_simp; try with_reducible rfl)
      try simp only [Act.put, List.setIfInBounds_toArray, List.set_cons_zero, List.set_cons_succ]
      refine wpF_last 11 (by simp only [List.getElem?_toArray, List.getElem?_cons_succ, List.getElem?_cons_zero]; exact rfl) (by kernel_rfl) (by decide) (fun K hK => ?_)
      have g1 : wr.drew.cell? ⟨p, 0, none⟩ = some (.int .u64 x.toNat) := hz.out.drew.cellAt 0 0 0 rfl rfl rfl
      have g1b : wr.cell? ⟨p, 0, none⟩ = some (.int .u64 x.toNat) := hz.out.cellAt 0 0 0 rfl rfl rfl
      have g2f : wr.drew.frozen? ⟨p, 0, none⟩ = false := hz.out.drew.freeAt 0 0 0 rfl rfl
      have g2g : wr.frozen? ⟨p, 0, none⟩ = false := hz.out.freeAt 0 0 0 rfl rfl
      go_simp
      refine hK _ _ ?_
      clear hK K
      try simp only [Act.put, List.setIfInBounds_toArray, List.set_cons_zero, List.set_cons_succ]
      refine wpF_done (by kernel_rfl) ?_
      have hy0 : H W (wr.setCell ⟨p, 0, none⟩ (.int .u64 (mixA x y).toNat)).drew ([(p, .cells #[.int .u64 (mixA x y).toNat, .int .u64 y.toNat] 121 (0, 0))] :: L) := (hz.out.setCell 0 (.int .u64 (mixA x y).toNat)).drew
      clear hz
      go_wp2_with fail
      generalize (wr.setCell ⟨p, 0, none⟩ (.int .u64 (mixA x y).toNat)).drew = wa at hy0 ⊢
      have hy := Lib.hid hy0
      have hB := mixB_eq x y
      have hC := mixC_eq x y
      clear hy0
      refine wpF_start (S := (fun w' => w'.cell? ⟨p, 0, none⟩ = some (.int .u64 (mixA x y).toNat) ∧ w'.cell? ⟨p, 1, none⟩ = some (.int .u64 y.toNat))) (fins := [13]) (by kernel_rfl) ?_ (fun hHeld => ?_)
      · exact ⟨hy.out.drew.cellAt 0 0 0 rfl rfl rfl, hy.out.drew.cellAt 0 0 1 rfl rfl rfl⟩
      refine wpF_take 0 (v := ?_) hHeld (by simp only [List.getElem?_toArray, List.getElem?_cons_zero]; exact rfl) (by kernel_rfl) (by exact fun _ _ _ h => h) (by rfl) ?_ ?_
      rotate_left
      · (intro w hSw; (try dsimp only at hSw); go_simp; try with_reducible rfl)
      try simp only [Act.put, List.setIfInBounds_toArray, List.set_cons_zero, List.set_cons_succ]
      refine wpF_take 1 (v := ?_) hHeld (by simp only [List.getElem?_toArray, List.getElem?_cons_succ, List.getElem?_cons_zero]; exact rfl) (by kernel_rfl) (by exact fun _ _ _ h => h) (by rfl) ?_ ?_
      rotate_left
      · (intro w hSw; (try dsimp only at hSw); go_simp; try with_reducible rfl)
      try simp only [Act.put, List.setIfInBounds_toArray, List.set_cons_zero, List.set_cons_succ]
      refine wpF_take 2 (v := ?_) hHeld (by simp only [List.getElem?_toArray, List.getElem?_cons_succ, List.getElem?_cons_zero]; exact rfl) (by kernel_rfl) (by exact fun _ _ _ h => h) (by rfl) ?_ ?_
      rotate_left
      · (intro w hSw; (try dsimp only at hSw); go_simp; try with_reducible rfl)
      try simp only [Act.put, List.setIfInBounds_toArray, List.set_cons_zero, List.set_cons_succ]
      refine wpF_take 3 (v := ?_) hHeld (by simp only [List.getElem?_toArray, List.getElem?_cons_succ, List.getElem?_cons_zero]; exact rfl) (by kernel_rfl) (by exact fun _ _ _ h => h) (by rfl) ?_ ?_
      rotate_left
      · (intro w hSw; (try dsimp only at hSw); go_simp; try with_reducible rfl)
      try simp only [Act.put, List.setIfInBounds_toArray, List.set_cons_zero, List.set_cons_succ]
      refine wpF_take 4 (v := ?_) hHeld (by simp only [List.getElem?_toArray, List.getElem?_cons_succ, List.getElem?_cons_zero]; exact rfl) (by kernel_rfl) (by exact fun _ _ _ h => h) (by rfl) ?_ ?_
      rotate_left
      · (intro w hSw; (try dsimp only at hSw); go_simp; try with_reducible rfl)
      try simp only [Act.put, List.setIfInBounds_toArray, List.set_cons_zero, List.set_cons_succ]
      refine wpF_take 6 (v := ?_) hHeld (by simp only [List.getElem?_toArray, List.getElem?_cons_succ, List.getElem?_cons_zero]; exact rfl) (by kernel_rfl) (by exact fun _ _ _ h => h) (by rfl) ?_ ?_
      rotate_left
      · (intro w hSw; (try dsimp only at hSw); go_simp; try with_reducible rfl)
      try simp only [Act.put, List.setIfInBounds_toArray, List.set_cons_zero, List.set_cons_succ]
      refine wpF_take 7 (v := ?_) hHeld (by simp only [List.getElem?_toArray, List.getElem?_cons_succ, List.getElem?_cons_zero]; exact rfl) (by kernel_rfl) (by exact fun _ _ _ h => h) (by rfl) ?_ ?_
      rotate_left
      · (intro w hSw; (try dsimp only at hSw); go_simp; try with_reducible rfl)
      try simp only [Act.put, List.setIfInBounds_toArray, List.set_cons_zero, List.set_cons_succ]
      refine wpF_take 8 (v := ?_) hHeld (by simp only [List.getElem?_toArray, List.getElem?_cons_succ, List.getElem?_cons_zero]; exact rfl) (by kernel_rfl) (by exact fun _ _ _ h => h) (by rfl) ?_ ?_
      rotate_left
      · (intro w hSw; (try dsimp only at hSw); go_simp; try with_reducible rfl)
      try simp only [Act.put, List.setIfInBounds_toArray, List.set_cons_zero, List.set_cons_succ]
      refine wpF_take 9 (v := ?_) hHeld (by simp only [List.getElem?_toArray, List.getElem?_cons_succ, List.getElem?_cons_zero]; exact rfl) (by kernel_rfl) (by exact fun _ _ _ h => h) (by rfl) ?_ ?_
      rotate_left
      · (intro w hSw; (try dsimp only at hSw); go_simp; try with_reducible rfl)
      try simp only [Act.put, List.setIfInBounds_toArray, List.set_cons_zero, List.set_cons_succ]
      refine wpF_one 5 (by simp only [List.getElem?_toArray, List.getElem?_cons_succ, List.getElem?_cons_zero]; exact rfl) (by kernel_rfl) (fun K hK => ?_)
      go_simp
      refine (rotl13_pro y _).mono ?_
      rintro e w5 ⟨rfl, rfl⟩
      refine hK _ _ ?_ (fun hHeld => ?_)
      · exact ⟨hy.out.drew.cellAt 0 0 0 rfl rfl rfl, hy.out.drew.cellAt 0 0 1 rfl rfl rfl⟩
      clear hK K
      try simp only [Act.put, List.setIfInBounds_toArray, List.set_cons_zero, List.set_cons_succ]
      refine wpF_take 10 (v := ?_) hHeld (by simp only [List.getElem?_toArray, List.getElem?_cons_succ, List.getElem?_cons_zero]; exact rfl) (by kernel_rfl) (by exact fun _ _ _ h => h) (by rfl) ?_ ?_
      rotate_left
      · (intro w hSw; (try dsimp only at hSw); go_simp; try with_reducible rfl)
      try simp only [Act.put, List.setIfInBounds_toArray, List.set_cons_zero, List.set_cons_succ]
      refine wpF_one 11 (by simp only [List.getElem?_toArray, List.getElem?_cons_succ, List.getElem?_cons_zero]; exact rfl) (by kernel_rfl) (fun K hK => ?_)
      go_simp
      refine hK _ _ ?_ (fun hHeld => ?_)
      · exact hHeld
      clear hK K
      try simp only [Act.put, List.setIfInBounds_toArray, List.set_cons_zero, List.set_cons_succ]
      refine wpF_take 12 (v := ?_) hHeld (by simp only [List.getElem?_toArray, List.getElem?_cons_succ, List.getElem?_cons_zero]; exact rfl) (by kernel_rfl) (by exact fun _ _ _ h => h) (by rfl) ?_ ?_
      rotate_left
      · (intro w hSw; (try dsimp only at hSw); go_simp; try with_reducible rfl)
      try simp only [Act.put, List.setIfInBounds_toArray, List.set_cons_zero, List.set_cons_succ]
      refine wpF_last 13 (by simp only [List.getElem?_toArray, List.getElem?_cons_succ, List.getElem?_cons_zero]; exact rfl) (by kernel_rfl) (by decide) (fun K hK => ?_)
      have g1 : wa.drew.cell? ⟨p, 1, none⟩ = some (.int .u64 y.toNat) := hy.out.drew.cellAt 0 0 1 rfl rfl rfl
      have g1b : wa.cell? ⟨p, 1, none⟩ = some (.int .u64 y.toNat) := hy.out.cellAt 0 0 1 rfl rfl rfl
      have g2f : wa.drew.frozen? ⟨p, 1, none⟩ = false := hy.out.drew.freeAt 0 0 1 rfl rfl
      have g2g : wa.frozen? ⟨p, 1, none⟩ = false := hy.out.freeAt 0 0 1 rfl rfl
      go_simp
      refine hK _ _ ?_
      clear hK K
      try simp only [Act.put, List.setIfInBounds_toArray, List.set_cons_zero, List.set_cons_succ]
      refine wpF_done (by kernel_rfl) ?_
      have hv0 : H W (wa.setCell ⟨p, 1, none⟩ (.int .u64 (mixB x y).toNat)).drew ([(p, .cells #[.int .u64 (mixA x y).toNat, .int .u64 (mixB x y).toNat] 121 (0, 0))] :: L) := (hy.out.setCell 1 (.int .u64 (mixB x y).toNat)).drew
      clear hy
      generalize (wa.setCell ⟨p, 1, none⟩ (.int .u64 (mixB x y).toNat)).drew = wb at hv0 ⊢
      have hv := Lib.hid hv0
      have d0 : wb.cell? ⟨p, 0, none⟩ = some (.int .u64 (mixA x y).toNat) := hv.out.cellAt 0 0 0 rfl rfl rfl
      have d1 : wb.frozen? ⟨p, 0, none⟩ = false := hv.out.freeAt 0 0 0 rfl rfl
      clear hv0
      go_wp2_with fail
      refine (rotl32_pro (mixA x y) _).mono ?_
      rintro e w5 ⟨rfl, rfl⟩
      go_wp2_with fail
      refine ⟨⟨k + 1, by omega, by go_num, ?_⟩, by simp [intOf]; omega⟩
      have hst : mixN s (k + 1) = (mixC x y, mixB x y) := by show mixS (mixN s k) = _; rw [hxy'.out]; rfl
      rw [hst]
      exact hv.out.setCell 0 (.int .u64 (mixC x y).toNat)
    · have hkn : k = n := by omega
      subst hkn
      have hw' := Lib.hid hw
      clear hw h'
      go_wp2_with fail
      go_end0
      exact ⟨rfl, hw'.out⟩
end Go.Proofs.Ytfhoblchgeijkaa

/-! part Jk -/
namespace Go.Proofs.Ytfhoblchgeijkaa
open Go.RowKit Go.Maps
variable {W w : World} {L T : List Seg} {S : Seg}

set_option maxRecDepth 100000 in
set_option maxHeartbeats 3200000 in
theorem sum_pro {A : Option Addr} {c : Nat} {l : List UInt8} (h : H W w L) (hr : RS L 1 (.slice A l.length c) l.length (u8s l)) (hc : l.length ≤ c) (hl : l.length ≤ 1099511627776) :
    Calls Try.prog 82 #[.slice A l.length c] w (POf (sumV l) W L) := by
  have hz0 := (h.alloc (.cells #[.int .u8 0, .int .u8 0, .int .u8 0, .int .u8 0, .int .u8 0, .int .u8 0, .int .u8 0, .int .u8 0] 95)).alloc (.cells #[.int .u64 2611923443488327891, .int .u64 1376283091369227076] 121)
  simp only [World.size_alloc] at hz0
  have hz := Lib.hid hz0
  have hr' := Lib.hid hr
  clear h hr hz0
  go_enter Try.func82, Try.ntmps82
  go_wp2_with fail
  have hp1 : (w.heap.size + 1) = w.heap.size + 1 := rfl
  obtain ⟨p, hp⟩ : ∃ p, p = w.heap.size + 1 := ⟨_, rfl⟩
  clear hp1
  rw [← hp] at hz ⊢
  go_loopw [4] (fun i wr => ∃ k I : Nat, I = 8 * k ∧ I < l.length + 8 ∧ i = .int .i64 I ∧ H W wr (sseg p (stH l k) :: [(w.heap.size, .cells #[.int .u8 0, .int .u8 0, .int .u8 0, .int .u8 0, .int .u8 0, .int .u8 0, .int .u8 0, .int .u8 0] 95 (0, 0))] :: L)) (fun i _ => l.length + 8 - (intOf i).toNat)
  case atStart => exact ⟨0, 0, rfl, by omega, rfl, hz.out⟩
  case round =>
    obtain ⟨k, I, hI, hk, rfl, hw⟩ := hrel
    have hI' := Lib.hid hI
    have hp' := Lib.hid hp
    obtain ⟨x, y, hxy⟩ : ∃ x y, stH l k = (x, y) := ⟨_, _, rfl⟩
    rw [hxy] at hw
    have hw' := Lib.hid (show H W wr ([(p, .cells #[.int .u64 x.toNat, .int .u64 y.toNat] 121 (0, 0))] :: [(w.heap.size, .cells #[.int .u8 0, .int .u8 0, .int .u8 0, .int .u8 0, .int .u8 0, .int .u8 0, .int .u8 0, .int .u8 0] 95 (0, 0))] :: L) from hw)
    have hxy' := Lib.hid hxy
    clear hxy hw hI hz hp
    by_cases hlt : I < l.length
    · have hki : (I : Int) < (l.length : Int) := by omega
      obtain ⟨g, o, rfl, _⟩ := hr'.out.get (by omega)
      obtain ⟨hs, hq⟩ := slice_from hr'.out hlt hc
      obtain ⟨q, hqd⟩ : ∃ q, l.drop I = q := ⟨_, rfl⟩
      rw [hqd] at hs hq
      have hs' := fun w => hs I w rfl
      have hq' := Lib.hid hq
      have hqd' := Lib.hid hqd
      obtain ⟨z, hzx⟩ : ∃ z, z = x ^^^ wordV q := ⟨_, rfl⟩
      have hxor := w64_xor x (wordV q)
      rw [← hzx] at hxor
      have hzx' := Lib.hid hzx
      clear hs hq hqd hzx
      go_wp2_with fail
      refine wpF_start (S := (fun w' => w'.cell? ⟨p, 0, none⟩ = some (.int .u64 x.toNat))) (fins := [8]) (by kernel_rfl) ?_ (fun hHeld => ?_)
      · exact hw'.out.drew.cellAt 0 0 0 rfl rfl rfl
      refine wpF_take 0 (v := ?_) hHeld (by simp only [List.getElem?_toArray, List.getElem?_cons_zero]; exact rfl) (by kernel_rfl) (by exact fun _ _ _ h => h) (by rfl) ?_ ?_
      rotate_left
      · (intro w hSw; (try dsimp only at hSw); go_simp; try with_reducible rfl)
      try simp only [Act.put, List.setIfInBounds_toArray, List.set_cons_zero, List.set_cons_succ]
      refine wpF_take 1 (v := ?_) hHeld (by simp only [List.getElem?_toArray, List.getElem?_cons_succ, List.getElem?_cons_zero]; exact rfl) (by kernel_rfl) (by exact fun _ _ _ h => h) (by rfl) ?_ ?_
      rotate_left
      · (intro w hSw; (try dsimp only at hSw); go_simp; try with_reducible rfl)
      try simp only [Act.put, List.setIfInBounds_toArray, List.set_cons_zero, List.set_cons_succ]
      refine wpF_take 2 (v := ?_) hHeld (by simp only [List.getElem?_toArray, List.getElem?_cons_succ, List.getElem?_cons_zero]; exact rfl) (by kernel_rfl) (by exact fun _ _ _ h => h) (by rfl) ?_ ?_
      rotate_left
      · (intro w hSw; (try dsimp only at hSw); go_simp; try with_reducible rfl)
      try simp only [Act.put, List.setIfInBounds_toArray, List.set_cons_zero, List.set_cons_succ]
      refine wpF_take 3 (v := ?_) hHeld (by simp only [List.getElem?_toArray, List.getElem?_cons_succ, List.getElem?_cons_zero]; exact rfl) (by kernel_rfl) (by exact fun _ _ _ h => h) (by rfl) ?_ ?_
      rotate_left
      · (intro w hSw; (try dsimp only at hSw); go_simp; try with_reducible rfl)
      try simp only [Act.put, List.setIfInBounds_toArray, List.set_cons_zero, List.set_cons_succ]
      refine wpF_take 4 (v := ?_) hHeld (by simp only [List.getElem?_toArray, List.getElem?_cons_succ, List.getElem?_cons_zero]; exact rfl) (by kernel_rfl) (by exact fun _ _ _ h => h) (by rfl) ?_ ?_
      rotate_left
      · (intro w hSw; (try dsimp only at hSw); go_simp; try with_reducible rfl)
      try simp only [Act.put, List.setIfInBounds_toArray, List.set_cons_zero, List.set_cons_succ]
      refine wpF_one 5 (by simp only [List.getElem?_toArray, List.getElem?_cons_succ, List.getElem?_cons_zero]; exact rfl) (by kernel_rfl) (fun K hK => ?_)
      go_simp
      refine (word_pro hw'.out.drew ((hq'.out.cons _).cons _)).mono ?_
      rintro e w5 ⟨rfl, h5⟩
      refine hK _ _ ?_ (fun hHeld => ?_)
      · exact h5.cellAt 0 0 0 rfl rfl rfl
      clear hK K
      try simp only [Act.put, List.setIfInBounds_toArray, List.set_cons_zero, List.set_cons_succ]
      refine wpF_take 6 (v := ?_) hHeld (by simp only [List.getElem?_toArray, List.getElem?_cons_succ, List.getElem?_cons_zero]; exact rfl) (by kernel_rfl) (by exact fun _ _ _ h => h) (by rfl) ?_ ?_
      rotate_left
      · (intro w hSw; (try dsimp only at hSw); go_simp; try with_reducible rfl)
      try simp only [Act.put, List.setIfInBounds_toArray, List.set_cons_zero, List.set_cons_succ]
      refine wpF_take 7 (v := ?_) hHeld (by simp only [List.getElem?_toArray, List.getElem?_cons_succ, List.getElem?_cons_zero]; exact rfl) (by kernel_rfl) (by exact fun _ _ _ h => h) (by rfl) ?_ ?_
      rotate_left
      · (intro w hSw; (try dsimp only at hSw); go_simp; try with_reducible rfl)
      try simp only [Act.put, List.setIfInBounds_toArray, List.set_cons_zero, List.set_cons_succ]
      refine wpF_last 8 (by simp only [List.getElem?_toArray, List.getElem?_cons_succ, List.getElem?_cons_zero]; exact rfl) (by kernel_rfl) (by decide) (fun K hK => ?_)
      have g1 : w5.cell? ⟨p, 0, none⟩ = some (.int .u64 x.toNat) := h5.cellAt 0 0 0 rfl rfl rfl
      have g2 : w5.frozen? ⟨p, 0, none⟩ = false := h5.freeAt 0 0 0 rfl rfl
      go_simp
      refine hK _ _ ?_
      clear hK K
      try simp only [Act.put, List.setIfInBounds_toArray, List.set_cons_zero, List.set_cons_succ]
      refine wpF_done (by kernel_rfl) ?_
      have hv0 : H W (w5.setCell ⟨p, 0, none⟩ (.int .u64 z.toNat)) (sseg p (z, y) :: [(w.heap.size, .cells #[.int .u8 0, .int .u8 0, .int .u8 0, .int .u8 0, .int .u8 0, .int .u8 0, .int .u8 0, .int .u8 0] 95 (0, 0))] :: L) := h5.setCell 0 (.int .u64 z.toNat)
      have hv := Lib.hid hv0
      clear hv0 h5
      go_wp2_with fail
      refine (mix_pro 2 (by omega) hv.out).mono ?_
      rintro e w6 ⟨rfl, h6⟩
      have h6' := Lib.hid h6
      clear h6
      go_wp2_with fail
      refine ⟨⟨k + 1, I + 8, by rw [hI'.out]; omega, by omega, by go_num, ?_⟩, by simp [intOf]; omega⟩
      have hst : stH l (k + 1) = mixN (z, y) 2 := by
        show roundS l k (stH l k) = _
        rw [hxy'.out, hzx'.out]
        unfold roundS
        rw [← hI'.out, hqd'.out]
        rfl
      rw [hst]
      exact h6'.out
    · have hki : ¬ (I : Int) < (l.length : Int) := by omega
      have hkk : k = (l.length + 7) / 8 := by have := hI'.out; omega
      obtain ⟨N, hN⟩ : ∃ N, N = UInt64.ofNat l.length := ⟨_, rfl⟩
      have hlw : (N.toNat : Int) = (l.length : Int) := by
        rw [hN, UInt64.toNat_ofNat']; omega
      obtain ⟨z, hzx⟩ : ∃ z, z = y ^^^ N := ⟨_, rfl⟩
      have hxor := w64_xor y N
      rw [← hzx, hlw] at hxor
      have hsv : sumV l = (mixN (x, z) 4).1 ^^^ (mixN (x, z) 4).2 := by
        unfold sumV
        rw [← hkk, hxy'.out, hzx, hN]
      have hsv' := Lib.hid hsv
      have b1 : wr.cell? ⟨p, 1, none⟩ = some (.int .u64 y.toNat) := hw'.out.cellAt 0 0 1 rfl rfl rfl
      have b2 : wr.frozen? ⟨p, 1, none⟩ = false := hw'.out.freeAt 0 0 1 rfl rfl
      have hv0 : H W (wr.setCell ⟨p, 1, none⟩ (.int .u64 z.toNat)) (sseg p (x, z) :: [(w.heap.size, .cells #[.int .u8 0, .int .u8 0, .int .u8 0, .int .u8 0, .int .u8 0, .int .u8 0, .int .u8 0, .int .u8 0] 95 (0, 0))] :: L) := hw'.out.setCell 1 (.int .u64 z.toNat)
      have hv := Lib.hid hv0
      clear hsv hzx hw' hr' hN hlw hv0
      go_wp2_with fail
      refine (mix_pro 4 (by omega) hv.out).mono ?_
      rintro e w6 ⟨rfl, h6⟩
      obtain ⟨a, r, har⟩ : ∃ a r, mixN (x, z) 4 = (a, r) := ⟨_, _, rfl⟩
      rw [har] at h6
      have har' := Lib.hid har
      have b3 : w6.cell? ⟨p, 0, none⟩ = some (.int .u64 a.toNat) := h6.cellAt 0 0 0 rfl rfl rfl
      have b4 : w6.cell? ⟨p, 1, none⟩ = some (.int .u64 r.toNat) := h6.cellAt 0 0 1 rfl rfl rfl
      have h6' := Lib.hid h6
      obtain ⟨u, hu⟩ : ∃ u, u = a ^^^ r := ⟨_, rfl⟩
      have hxu := w64_xor a r
      rw [← hu] at hxu
      have hu' := Lib.hid hu
      clear har h6 hu
      go_wp2_with fail
      refine (of_pro u (h6'.out.pick 1 rfl)).mono ?_
      rintro e w4 ⟨rfl, h4⟩
      have h4' := Lib.hid (show H W w4 ([(w.heap.size, .cells #[.int .u8 0, .int .u8 0, .int .u8 0, .int .u8 0, .int .u8 0, .int .u8 0, .int .u8 0, .int .u8 0] 95 (0, 0))] :: sseg p (a, r) :: L) from h4)
      clear h4
      have y0 := h4'.out.freeAt 0 0 0 rfl rfl
      have y1 := h4'.out.freeAt 0 0 1 rfl rfl
      have y2 := h4'.out.freeAt 0 0 2 rfl rfl
      have y3 := h4'.out.freeAt 0 0 3 rfl rfl
      have y4 := h4'.out.freeAt 0 0 4 rfl rfl
      have y5 := h4'.out.freeAt 0 0 5 rfl rfl
      have y6 := h4'.out.freeAt 0 0 6 rfl rfl
      have y7 := h4'.out.freeAt 0 0 7 rfl rfl
      have c0 := h4'.out.cellAt 0 0 0 rfl rfl rfl
      have c1 := h4'.out.cellAt 0 0 1 rfl rfl rfl
      have c2 := h4'.out.cellAt 0 0 2 rfl rfl rfl
      have c3 := h4'.out.cellAt 0 0 3 rfl rfl rfl
      have c4 := h4'.out.cellAt 0 0 4 rfl rfl rfl
      have c5 := h4'.out.cellAt 0 0 5 rfl rfl rfl
      have c6 := h4'.out.cellAt 0 0 6 rfl rfl rfl
      have c7 := h4'.out.cellAt 0 0 7 rfl rfl rfl
      have hcs := ofB_cells u
      obtain ⟨t0, t1, t2, t3, t4, t5, t6, t7, hv⟩ : ∃ t0 t1 t2 t3 t4 t5 t6 t7, (u8s (ofB u)).toArray = #[.int .u8 t0, .int .u8 t1, .int .u8 t2, .int .u8 t3, .int .u8 t4, .int .u8 t5, .int .u8 t6, .int .u8 t7] := ⟨_, _, _, _, _, _, _, _, hcs⟩
      clear hcs
      rw [hv]
      have hv' := Lib.hid hv
      clear hv
      go_wp2_with fail
      have hf : H W ((((((((w4.setCell ⟨w.heap.size, 0, none⟩ (.int .u8 t0)).setCell ⟨w.heap.size, 1, none⟩ (.int .u8 t1)).setCell ⟨w.heap.size, 2, none⟩ (.int .u8 t2)).setCell ⟨w.heap.size, 3, none⟩ (.int .u8 t3)).setCell ⟨w.heap.size, 4, none⟩ (.int .u8 t4)).setCell ⟨w.heap.size, 5, none⟩ (.int .u8 t5)).setCell ⟨w.heap.size, 6, none⟩ (.int .u8 t6)).setCell ⟨w.heap.size, 7, none⟩ (.int .u8 t7)) ([(w.heap.size, .cells #[.int .u8 t0, .int .u8 t1, .int .u8 t2, .int .u8 t3, .int .u8 t4, .int .u8 t5, .int .u8 t6, .int .u8 t7] 95 (0, 0))] :: sseg p (a, r) :: L) := by
        have hf := (((((((h4'.out.setCell 0 (.int .u8 t0)).setCell 1 (.int .u8 t1)).setCell 2 (.int .u8 t2)).setCell 3 (.int .u8 t3)).setCell 4 (.int .u8 t4)).setCell 5 (.int .u8 t5)).setCell 6 (.int .u8 t6)).setCell 7 (.int .u8 t7)
        simpa using hf
      generalize ((((((((w4.setCell ⟨w.heap.size, 0, none⟩ (.int .u8 t0)).setCell ⟨w.heap.size, 1, none⟩ (.int .u8 t1)).setCell ⟨w.heap.size, 2, none⟩ (.int .u8 t2)).setCell ⟨w.heap.size, 3, none⟩ (.int .u8 t3)).setCell ⟨w.heap.size, 4, none⟩ (.int .u8 t4)).setCell ⟨w.heap.size, 5, none⟩ (.int .u8 t5)).setCell ⟨w.heap.size, 6, none⟩ (.int .u8 t6)).setCell ⟨w.heap.size, 7, none⟩ (.int .u8 t7)) = wz at hf ⊢
      have x0 : wz.cell? ⟨w.heap.size, 0, none⟩ = some (.int .u8 t0) := hf.cellAt 0 0 0 rfl rfl rfl
      have x1 : wz.cell? ⟨w.heap.size, 1, none⟩ = some (.int .u8 t1) := hf.cellAt 0 0 1 rfl rfl rfl
      have x2 : wz.cell? ⟨w.heap.size, 2, none⟩ = some (.int .u8 t2) := hf.cellAt 0 0 2 rfl rfl rfl
      have x3 : wz.cell? ⟨w.heap.size, 3, none⟩ = some (.int .u8 t3) := hf.cellAt 0 0 3 rfl rfl rfl
      have x4 : wz.cell? ⟨w.heap.size, 4, none⟩ = some (.int .u8 t4) := hf.cellAt 0 0 4 rfl rfl rfl
      have x5 : wz.cell? ⟨w.heap.size, 5, none⟩ = some (.int .u8 t5) := hf.cellAt 0 0 5 rfl rfl rfl
      have x6 : wz.cell? ⟨w.heap.size, 6, none⟩ = some (.int .u8 t6) := hf.cellAt 0 0 6 rfl rfl rfl
      have x7 : wz.cell? ⟨w.heap.size, 7, none⟩ = some (.int .u8 t7) := hf.cellAt 0 0 7 rfl rfl rfl
      have hsu : sumV l = u := by rw [hsv'.out, har'.out]; exact hu'.out.symm
      refine bodyPost_ret (v := .agg (u8s (ofB (sumV l))).toArray) ?_ rfl ⟨rfl, hf.drop.drop⟩
      have hres : Try.f82.results = #[.cell 2 95] := by kernel_rfl
      rw [hsu, hv'.out]
      simp only [results, hres]
      go_simp
end Go.Proofs.Ytfhoblchgeijkaa
