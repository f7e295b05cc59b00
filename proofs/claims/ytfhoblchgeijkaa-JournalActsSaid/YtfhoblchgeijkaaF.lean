import Derived.Test.YtfhoblchgeijkaaD
namespace Go.Proofs.Ytfhoblchgeijkaa
open Go.RowKit Go.Maps
variable {W w : World} {L : List Seg} {v : Value} {l n bs : Bs} {b M : Nat} {d : AD} {SM X S : Seg} {rs rs1 rs2 : List FR} {r : FR}

def updL (n : Bs) (g : AF → AF) : List AF → List AF
  | [] => []
  | f :: r => if f.name == n then g f :: r else f :: updL n g r

theorem updL_mid (g : AF → AF) {fs1 fs2 : List AF} {f : AF} (h1 : ∀ s ∈ fs1, s.name ≠ n) (hn : f.name = n) : updL n g (fs1 ++ f :: fs2) = fs1 ++ g f :: fs2 := by
  induction fs1 with
  | nil => simp [updL, hn]
  | cons s fs1 ih =>
    have : (s.name == n) = false := by simpa using h1 s (by simp)
    simp only [List.cons_append, updL, this, Bool.false_eq_true, if_false]
    rw [ih fun x hx => h1 x (by simp [hx])]

theorem insL_map {α β : Type} (h : α → β) (f : β → Bs) (x : α) : ∀ l : List α, (insL (fun y => f (h y)) x l).map h = insL f (h x) (l.map h)
  | [] => rfl
  | y :: r => by
    unfold insL
    simp only [List.map_cons]
    cases hc : bytesBefore (f (h x)) (f (h y))
    · simp only [Bool.false_eq_true, if_false, List.map_cons, insL_map h f x r]
    · simp only [if_true, List.map_cons]

theorem insL_split {α : Type} (f : α → Bs) (x : α) : ∀ l : List α, ∃ l1 l2, l = l1 ++ l2 ∧ insL f x l = l1 ++ x :: l2 ∧ ∀ y ∈ l1, bytesBefore (f x) (f y) = false
  | [] => ⟨[], [], rfl, rfl, by simp⟩
  | y :: r => by
    unfold insL
    cases hc : bytesBefore (f x) (f y)
    · obtain ⟨l1, l2, h1, h2, h3⟩ := insL_split f x r
      refine ⟨y :: l1, l2, by rw [h1]; rfl, by simp [h2], ?_⟩
      intro z hz
      rcases List.mem_cons.1 hz with rfl | hz
      · exact hc
      · exact h3 z hz
    · exact ⟨[], y :: r, rfl, by simp, by simp⟩

/-- The files behind an append of bs to the file n. -/
def AD.appF (d : AD) (n bs : Bs) : List AF :=
  if (d.find n).isNone then insL AF.name ⟨n, bs, 0⟩ d.fs else updL n (fun f => { f with data := f.data ++ bs }) d.fs
def AD.appE (d : AD) (n : Bs) : Int := if d.openE n = 0 then (if d.writes then 0 else 103) else d.openE n
def AD.app (d : AD) (n bs : Bs) : AD := if d.openE n = 0 then ({ d with fs := d.appF n bs } : AD).wrote else d

theorem wpl_appendCut {ops : Array Oper} {rest : List Oper} {o : Oper} {a : Act} {Q : Exit → Act → World → Prop} (hgd : o.guard = none) (s x : Operand)
    (ho : o.op = .call { callee := .builtin .append, args := #[s, x], argTypes := #[27, 27] })
    {vx : Value} {m : Bs} (hs : a.eval s = v) (hx : a.eval x = vx) (h : H W w (S :: L)) (hc : CutS v l S)
    (hr : RS (S :: L) 1 vx m.length (u8s m)) (hb : l.length + m.length ≤ 140737488355328)
    (hK : ∀ A' cap' w' S', H W w' (S' :: L) → CutS (.slice A' (l.length + m.length) cap') (l ++ m) S' → wpList Try.prog ops Q rest (a.put o.dst (.slice A' (l.length + m.length) cap')) w') :
    wpList Try.prog ops Q (o :: rest) a w := by
  obtain ⟨v', w', S', hrun, h2, h3⟩ := h.appendCut et27 hc hr hb o.type
  obtain ⟨A', cap', rfl, _⟩ := h3.form
  rw [List.length_append] at h3 hrun
  refine wpList_plain hgd fun K hK' => ?_
  unfold Oper.wp execOp
  simp only [ho, resolve, invoke, builtin, Sem.run_bind, Sem.run_pure, Result.andThen_ok, List.map_toArray, List.map_cons, List.map_nil, hs, hx, hrun]
  exact hK' _ _ (hK A' cap' w' S' h2 h3)

set_option maxHeartbeats 400000 in
theorem app_miss {x : Int} (vb : Value) (hop : Calls Try.prog 42 #[.pointer (some ⟨b, 0, none⟩), .string (bstr n)] w (POpen none x fun w' => w = w')) (hx : x ≠ 0) :
    Calls Try.prog 13 #[.pointer (some ⟨b, 0, none⟩), .string (bstr n), vb] w (PErr x fun w' => w = w') := by
  have hc' : (x != 0) = true := by simpa using hx
  go_enter Try.func13, Try.ntmps13
  go_wp2_with (go_at_call 42; refine hop.mono ?_; rintro e w1 ⟨rfl, rfl⟩; unfold ptrV)
  go_ret
  exact ⟨rfl, rfl⟩

/-- What is behind the append: the file's row is new, or longer; the disk's head has counted a write. -/
def PApp (W : World) (b M : Nat) (d : AD) (T : List Seg) (r : FR) (bs : Bs) (e : Ending) (w' : World) : Prop :=
  ∃ v' S', e = .returned (.int .i64 (if d.writes then 0 else 103)) ∧ H W w' (dhdr b M d.wrote :: [(r.blk, .cells #[v', .int .i64 r.a.dur] 77 (0, 0))] :: S' :: T) ∧ CutS v' (r.a.data ++ bs) S'

set_option maxHeartbeats 1600000 in
theorem app_hit {T : List Seg} {vb : Value} (hop : Calls Try.prog 42 #[.pointer (some ⟨b, 0, none⟩), .string (bstr n)] w (POpen (some r.blk) 0 fun w' => w = w'))
    (h : H W w (fhdr r :: r.S :: dhdr b M d :: T)) (hok : r.ok) (hr : RL T vb bs) (hl : d.left < 9223372036854775808) (hbs : bs.length ≤ 1099511627776) :
    Calls Try.prog 13 #[.pointer (some ⟨b, 0, none⟩), .string (bstr n), vb] w (PApp W b M d T r bs) := by
  have c0 : w.cell? ⟨r.blk, 0, none⟩ = some r.v := h.cellAt 0 0 0 rfl rfl rfl
  have f0 : w.frozen? ⟨r.blk, 0, none⟩ = false := h.freeAt 0 0 0 rfl rfl
  have h' := Lib.hid h
  have hok' := Lib.hid hok
  have hr' := Lib.hid hr
  have hb : r.a.data.length + bs.length ≤ 140737488355328 := by have := hok.2.1; omega
  clear h hok hr
  cases hwv : d.writes with
  | false =>
    go_enter Try.func13, Try.ntmps13
    go_wp2_with (first
      | (go_at_call 42; refine hop.mono ?_; rintro e w1 ⟨rfl, rfl⟩; unfold ptrV)
      | (at_builtin; refine wpl_appendCut rfl (.tmp 41) (.tmp 42) rfl rfl rfl h'.out.swap hok'.out.1 (((hr'.out.2.cons (dhdr b M d)).cons (fhdr r)).cons r.S) hb ?_; intro A' cap' w2 S' h2 h3
         have c2 : w2.cell? ⟨r.blk, 0, none⟩ = some r.v := h2.cellAt 1 0 0 rfl rfl rfl
         have f2 : w2.frozen? ⟨r.blk, 0, none⟩ = false := h2.freeAt 1 0 0 rfl rfl
         have h2' := Lib.hid ((h2.swap.setCell 0 (.slice A' (r.a.data.length + bs.length) cap')).pick 2 rfl)
         have h3' := Lib.hid h3
         clear h2 h3)
      | (go_at_call 43; refine (write_hdr h2'.out hl).mono ?_; rw [hwv]; rintro e w3 ⟨rfl, h4⟩; have h4' := Lib.hid h4; clear h4))
    go_ret
    exact ⟨_, S', by rw [hwv]; rfl, h4'.out, h3'.out⟩
  | true =>
    go_enter Try.func13, Try.ntmps13
    go_wp2_with (first
      | (go_at_call 42; refine hop.mono ?_; rintro e w1 ⟨rfl, rfl⟩; unfold ptrV)
      | (at_builtin; refine wpl_appendCut rfl (.tmp 41) (.tmp 42) rfl rfl rfl h'.out.swap hok'.out.1 (((hr'.out.2.cons (dhdr b M d)).cons (fhdr r)).cons r.S) hb ?_; intro A' cap' w2 S' h2 h3
         have c2 : w2.cell? ⟨r.blk, 0, none⟩ = some r.v := h2.cellAt 1 0 0 rfl rfl rfl
         have f2 : w2.frozen? ⟨r.blk, 0, none⟩ = false := h2.freeAt 1 0 0 rfl rfl
         have h2' := Lib.hid ((h2.swap.setCell 0 (.slice A' (r.a.data.length + bs.length) cap')).pick 2 rfl)
         have h3' := Lib.hid h3
         clear h2 h3)
      | (go_at_call 43; refine (write_hdr h2'.out hl).mono ?_; rw [hwv]; rintro e w3 ⟨rfl, h4⟩; have h4' := Lib.hid h4; clear h4))
    go_ret
    exact ⟨_, S', by rw [hwv]; rfl, h4'.out, h3'.out⟩
end Go.Proofs.Ytfhoblchgeijkaa
