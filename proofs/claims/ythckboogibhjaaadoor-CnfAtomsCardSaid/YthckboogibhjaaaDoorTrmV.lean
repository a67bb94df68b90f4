/- cnf's literal: what it computes, and the maker's state. -/
import Derived.Test.YthckboogibhjaaaDoorTrmM
import Derived.Test.YthckboogibhjaaaDoorTrmJ
namespace Go.Proofs.YthckboogibhjaaaDoor.Trm
set_option linter.unusedVariables false
set_option linter.unusedSimpArgs false
open Go.RowKit Go.Proofs.YthckboogibhjaaaDoorW.PrintWords Go.Proofs.YthckboogibhjaaaDoorW.PrintMore

/-- The clauses that a join adds, of literals. -/
def orC (h : Int) (l : List Int) (c : List (List Int)) : List (List Int) := (c ++ (l.map fun n => -n).map fun n => [h, n]) ++ [(-h) :: l]
def andC (h : Int) (l : List Int) (c : List (List Int)) : List (List Int) := (c ++ l.map fun n => [-h, n]) ++ [h :: l.map fun n => -n]
def addC (op h : Int) (l : List Int) (c : List (List Int)) : List (List Int) :=
  if op = 16 then c ++ [[h]] else if op = 17 then c ++ [[-h]] else if op = 19 then andC h l c else if op = 21 then orC h (l.set 0 (-(l.headD 0))) c else orC h l c

mutual
/-- (*maker).literal. -/
def litT (ats : List S24) : S24 → Int → List (List Int) → Int × Int × List (List Int)
  | ⟨op, nm, n, l⟩, v, c =>
    if joinsB op = true then
      if op = 18 then (-((litL ats l v c).1.headD 0), (litL ats l v c).2.1, (litL ats l v c).2.2)
      else ((litL ats l v c).2.1 + 1, (litL ats l v c).2.1 + 1, addC op ((litL ats l v c).2.1 + 1) (litL ats l v c).1 (litL ats l v c).2.2)
    else (findT ats ⟨op, nm, n, l⟩ 0 + 1, v, c)
def litL (ats : List S24) : List S24 → Int → List (List Int) → List Int × Int × List (List Int)
  | [], v, c => ([], v, c)
  | x :: l, v, c => ((litT ats x v c).1 :: (litL ats l (litT ats x v c).2.1 (litT ats x v c).2.2).1, (litL ats l (litT ats x v c).2.1 (litT ats x v c).2.2).2)
end
theorem litT_mk (ats : List S24) (t : S24) (v : Int) (c : List (List Int)) : litT ats t v c = if joinsB t.f0 = true then
      if t.f0 = 18 then (-((litL ats t.f3 v c).1.headD 0), (litL ats t.f3 v c).2.1, (litL ats t.f3 v c).2.2)
      else ((litL ats t.f3 v c).2.1 + 1, (litL ats t.f3 v c).2.1 + 1, addC t.f0 ((litL ats t.f3 v c).2.1 + 1) (litL ats t.f3 v c).1 (litL ats t.f3 v c).2.2)
    else (findT ats t 0 + 1, v, c) := by cases t; rw [litT]

mutual
/-- Not and Imp have parts. -/
def okT : S24 → Prop
  | ⟨op, _, _, l⟩ => joinsB op = true → ((op = 18 ∨ op = 21) → l ≠ []) ∧ okL l
def okL : List S24 → Prop
  | [] => True
  | x :: l => okT x ∧ okL l
end
theorem okT_mk (t : S24) : okT t = (joinsB t.f0 = true → ((t.f0 = 18 ∨ t.f0 = 21) → t.f3 ≠ []) ∧ okL t.f3) := by cases t; rw [okT]
theorem okL_get : ∀ {l : List S24}, okL l → ∀ {j : Nat} (h : j < l.length), okT l[j]
  | x :: l, ho, 0, h => by rw [okL] at ho; exact ho.1
  | x :: l, ho, j + 1, h => by rw [okL] at ho; exact okL_get ho.2 (by simpa using h)

theorem findT_le (t : S24) : ∀ (l : List S24) (j : Nat), -1 ≤ findT l t j ∧ findT l t j < ((j + l.length : Nat) : Int)
  | [], j => by rw [findT]; constructor <;> omega
  | x :: l, j => by
    rw [findT]
    have := findT_le t l (j + 1)
    rw [List.length_cons]
    split <;> constructor <;> omega

theorem orC_len (h : Int) (l : List Int) (c : List (List Int)) : (orC h l c).length = c.length + l.length + 1 := by simp [orC]; omega
theorem addC_len {op h : Int} {l : List Int} {c : List (List Int)} (h16 : 16 ≤ op) : (addC op h l c).length ≤ c.length + l.length + 1 := by
  unfold addC
  repeat' split
  · simp
  · simp
  · simp [andC]; omega
  · rw [orC_len]; simp
  · rw [orC_len]; simp

mutual
theorem litT_le (ats : List S24) : ∀ (t : S24) (v : Int) (c : List (List Int)), (ats.length : Int) ≤ v →
    v ≤ (litT ats t v c).2.1 ∧ (litT ats t v c).2.1 ≤ v + tsize t ∧ -(litT ats t v c).2.1 ≤ (litT ats t v c).1 ∧ (litT ats t v c).1 ≤ (litT ats t v c).2.1 ∧ (litT ats t v c).2.2.length + 1 ≤ c.length + 2 * tsize t
  | ⟨op, nm, n, l⟩, v, c, hv => by
    rw [litT, tsize]
    have ih := litL_le ats l v c hv
    have hll : l.length ≤ lsize l := len_lsize l
    by_cases hj : joinsB op = true
    · rw [if_pos hj]
      have h16 : 16 ≤ op := by unfold joinsB at hj; simp at hj; exact hj.1
      by_cases h18 : op = 18
      · rw [if_pos h18]
        have hb : -(litL ats l v c).2.1 ≤ (litL ats l v c).1.headD 0 ∧ (litL ats l v c).1.headD 0 ≤ (litL ats l v c).2.1 := by
          cases hx : (litL ats l v c).1 with
          | nil => simp; omega
          | cons y ys => exact ih.2.2.2.1 y (by rw [hx]; exact List.mem_cons_self)
        refine ⟨ih.1, ?_, ?_, ?_, ?_⟩ <;> simp only <;> omega
      · rw [if_neg h18]
        have ha := addC_len (h := (litL ats l v c).2.1 + 1) (l := (litL ats l v c).1) (c := (litL ats l v c).2.2) h16
        refine ⟨?_, ?_, ?_, ?_, ?_⟩ <;> simp only <;> omega
    · rw [if_neg hj]
      have hf := findT_le ⟨op, nm, n, l⟩ ats 0
      refine ⟨?_, ?_, ?_, ?_, ?_⟩ <;> simp only <;> omega
theorem litL_le (ats : List S24) : ∀ (l : List S24) (v : Int) (c : List (List Int)), (ats.length : Int) ≤ v →
    v ≤ (litL ats l v c).2.1 ∧ (litL ats l v c).2.1 ≤ v + lsize l ∧ (litL ats l v c).1.length = l.length ∧ (∀ x, x ∈ (litL ats l v c).1 → -(litL ats l v c).2.1 ≤ x ∧ x ≤ (litL ats l v c).2.1) ∧ (litL ats l v c).2.2.length + l.length ≤ c.length + 2 * lsize l
  | [], v, c, hv => by rw [litL, lsize]; simp
  | x :: l, v, c, hv => by
    rw [litL, lsize]
    have h1 := litT_le ats x v c hv
    have h2 := litL_le ats l (litT ats x v c).2.1 (litT ats x v c).2.2 (by omega)
    refine ⟨?_, ?_, ?_, ?_, ?_⟩ <;> simp only [List.length_cons]
    · omega
    · omega
    · omega
    · intro y hy
      rcases List.mem_cons.1 hy with rfl | hy
      · omega
      · exact h2.2.2.2.1 y hy
    · omega
theorem len_lsize : ∀ (l : List S24), l.length ≤ lsize l
  | [] => by simp
  | x :: l => by rw [lsize, List.length_cons, tsize_mk]; have := len_lsize l; omega
end

/-! The maker's state while clauses are made: mb its block, va its atoms' row. -/
def Ls (mb : Nat) (w0 wL : World) (oka : Nat → Prop) (va : Value) (vars : Int) (cls : List (List Int)) (vc : Value) (W : World) : Prop :=
  W.heap[mb]? = some (.cells #[va, .int .i64 vars, vc] 47 (0, 0)) ∧ Kd.N (Kd.slice 3 (Kd.int .i64)) 32 W w0.heap.size (fun k => k ≠ mb ∧ ¬ oka k) vc cls ∧ Below w0.heap.size w0 W ∧ wL.heap.size ≤ W.heap.size ∧ ∀ k, oka k → k < wL.heap.size → W.heap[k]? = wL.heap[k]?
/-- A row of numbers of the call's own. -/
def Lr (wb W : World) (v : Value) (l : List Int) : Prop := Kd.N (Kd.int .i64) 3 W wb.heap.size (fun _ => True) v l
section
variable {mb : Nat} {wb w0 wL W W' : World} {oka : Nat → Prop} {va vc v1 v : Value} {vars : Int} {cls : List (List Int)} {l : List Int}
theorem Ls_below (h : Ls mb w0 wL oka va vars cls vc W) (hb : Below W.heap.size W W') (ho : ∀ k, oka k → k < wL.heap.size) : Ls mb w0 wL oka va vars cls vc W' :=
  ⟨blk_below h.1 hb, Kd.N_below h.2.1 hb, h.2.2.1.trans (hb.mono h.2.2.1.size), Nat.le_trans h.2.2.2.1 hb.size, fun k h1 h2 => (hb.block k (Nat.lt_of_lt_of_le h2 h.2.2.2.1)).trans (h.2.2.2.2 k h1 h2)⟩
theorem Ls_vars (h : Ls mb w0 wL oka va vars cls vc W) (hm : ∀ k, oka k → k ≠ mb) (h0 : w0.heap.size ≤ mb) (n : Int) : Ls mb w0 wL oka va n cls vc (W.setCell ⟨mb, 1, none⟩ (.int .i64 n)) :=
  ⟨blk_put h.1 1 _ rfl, Kd.N_far h.2.1 (fun k hk => hk.1) _, h.2.2.1.setCell h0 _, by have := h.2.2.2.1; simp [World.setCell]; exact this, fun k h1 h2 => (Below.heap_setCell _ _ _ _ (hm k h1)).trans (h.2.2.2.2 k h1 h2)⟩
theorem Turn.below (h : Turn mb vc v1 W W') {W2 : World} (hb : Below W'.heap.size W' W2) : Turn mb vc v1 W W2 :=
  ⟨h.1, fun k h1 h2 h3 => (hb.block k (Nat.lt_of_lt_of_le h1 h.2.2)).trans (h.2.1 k h1 h2 h3), Nat.le_trans h.2.2 hb.size⟩
theorem Turn.set (h : Turn mb vc v1 W W') (i : Nat) (u : Value) : Turn mb vc v1 W (W'.setCell ⟨mb, i, none⟩ u) :=
  ⟨h.1, fun k h1 h2 h3 => (Below.heap_setCell _ _ _ _ h2).trans (h.2.1 k h1 h2 h3), by have := h.2.2; simp [World.setCell]; exact this⟩
theorem N_int_any {e base : Nat} {ok ok' : Nat → Prop} {xs : List Int} (h : Kd.N (Kd.int .i64) e W base ok v xs) (hk : ∀ k, v.ownBlock = some k → ok' k) : Kd.N (Kd.int .i64) e W base ok' v xs := by
  obtain ⟨h0, rows, hl, hR, hf⟩ := h
  exact ⟨hk, rows, hl, hR, fun j x c hx hc W' _ => (show c = [.int .i64 x] from (Kd.FK_now (hf j x c hx hc)))⟩
theorem Lr_below (h : Lr wb W v l) (hb : Below W.heap.size W W') : Lr wb W' v l := Kd.N_below h hb
theorem Lr_nil (wb W : World) : Lr wb W (.slice none 0 0) [] := Kd.N_nil _ _ _ _ _
theorem Lr_mb (h : Lr wb W v l) (hm : Ls mb w0 wL oka va vars cls vc W) : ∀ k, v.ownBlock = some k → k ≠ mb ∧ some k ≠ vc.ownBlock := by
  intro k hk
  obtain ⟨cells, hc⟩ := Kd.N_typed h k hk
  refine ⟨blk_ne hc hm.1 (by decide), fun he => ?_⟩
  obtain ⟨cells', hc'⟩ := Kd.N_typed hm.2.1 k he.symm
  exact blk_ne hc hc' (by decide) rfl
theorem Lr_any (h : Lr wb W v l) (hm : Ls mb w0 wL oka va vars cls vc W) : Kd.N (Kd.int .i64) 3 W wb.heap.size (fun k => k ≠ mb ∧ some k ≠ vc.ownBlock) v l := N_int_any h (Lr_mb h hm)
theorem Lr_turn (h : Lr wb W v l) (hm : Ls mb w0 wL oka va vars cls vc W) (hT : Turn mb vc v1 W W') : Lr wb W' v l :=
  Kd.N_mono (Kd.N_step (Lr_any h hm) (fun k hk hlt => hT.2.1 k hlt hk.1 hk.2)) (fun _ _ => trivial)
theorem Lr_set (h : Lr wb W v l) (hm : Ls mb w0 wL oka va vars cls vc W) (i : Nat) (u : Value) : Lr wb (W.setCell ⟨mb, i, none⟩ u) v l :=
  Kd.N_mono (Kd.N_far (Lr_any h hm) (fun k hk => hk.1) u) (fun _ _ => trivial)
/-- The state, and a row of numbers that no clause is. -/
def Lx (mb : Nat) (w0 wL : World) (oka : Nat → Prop) (va : Value) (vars : Int) (cls : List (List Int)) (vc vl : Value) (W : World) : Prop :=
  Ls mb w0 wL oka va vars cls vc W ∧ Kd.N (Kd.slice 3 (Kd.int .i64)) 32 W w0.heap.size (fun k => (k ≠ mb ∧ ¬ oka k) ∧ some k ≠ vl.ownBlock) vc cls
theorem Lx_alloc (h : Lx mb w0 wL oka va vars cls vc v W) (ho : ∀ k, oka k → k < wL.heap.size ∧ k ≠ mb) (o : Obj) : Lx mb w0 wL oka va vars cls vc v (W.alloc o) :=
  ⟨Ls_below h.1 (below_alloc (Below.refl _ _) o) (fun k hk => (ho k hk).1), Kd.N_alloc h.2 o⟩
theorem Lx_nil (h : Ls mb w0 wL oka va vars cls vc W) : Lx mb w0 wL oka va vars cls vc (.slice none 0 0) W := ⟨h, Kd.N_apart_nil h.2.1⟩
/-- What the next call is handed: the row of numbers is not to be touched. -/
theorem Lx_down (h : Lx mb w0 wL oka va vars cls vc v W) : Ls mb w0 W (fun k => oka k ∨ some k = v.ownBlock) va vars cls vc W :=
  ⟨h.1.1, Kd.N_mono h.2 (fun k hk => ⟨hk.1.1, fun h' => h'.elim hk.1.2 hk.2⟩), h.1.2.2.1, Nat.le_refl _, fun _ _ _ => rfl⟩
/-- .. and what it leaves. -/
theorem Lx_up {vars' : Int} {cls' : List (List Int)} (h : Ls mb w0 wL oka va vars cls vc W) (ho : ∀ k, oka k → k < wL.heap.size ∧ k ≠ mb) (h' : Ls mb w0 W (fun k => oka k ∨ some k = v.ownBlock) va vars' cls' v1 W') : Lx mb w0 wL oka va vars' cls' v1 v W' :=
  ⟨⟨h'.1, Kd.N_mono h'.2.1 (fun k hk => ⟨hk.1, fun h2 => hk.2 (.inl h2)⟩), h'.2.2.1, Nat.le_trans h.2.2.2.1 h'.2.2.2.1, fun k h1 h2 => (h'.2.2.2.2 k (.inl h1) (Nat.lt_of_lt_of_le h2 h.2.2.2.1)).trans (h.2.2.2.2 k h1 h2)⟩, Kd.N_mono h'.2.1 (fun k hk => ⟨⟨hk.1, fun h2 => hk.2 (.inl h2)⟩, fun h2 => hk.2 (.inr h2)⟩)⟩
theorem Lr_up {vars' : Int} {cls' : List (List Int)} (h : Lr wb W v l) (h' : Ls mb w0 W (fun k => oka k ∨ some k = v.ownBlock) va vars' cls' v1 W') : Lr wb W' v l :=
  Kd.N_mono (Kd.N_step (N_int_any (ok' := fun k => some k = v.ownBlock) h (fun k hk => hk.symm)) (fun k hk hlt => h'.2.2.2.2 k (.inr hk) hlt)) (fun _ _ => trivial)
/-- The row of numbers has grown. -/
theorem Lx_grown {u u1 : Value} (h : Lx mb w0 wL oka va vars cls vc u W) (hmb : some mb ≠ u.ownBlock) (ho : ∀ k, oka k → some k ≠ u.ownBlock) (hbw : w0.heap.size ≤ wb.heap.size) (hB : Below wb.heap.size W W') (hg : W.grownBy W' u.ownBlock) (hat : u1.ownBlock = u.ownBlock ∨ ∃ b, u1.ownBlock = some b ∧ W.heap.size ≤ b) : Lx mb w0 wL oka va vars cls vc u1 W' := by
  have h2 := Kd.N_after h.2 hg hat
  exact ⟨⟨blk_grown h.1.1 hg hmb, Kd.N_drop h2, h.1.2.2.1.trans (hB.mono hbw), Nat.le_trans h.1.2.2.2.1 hg.size, fun k h1 h3 => (hg.block k (Nat.lt_of_lt_of_le h3 h.1.2.2.2.1) (ho k h1)).trans (h.1.2.2.2.2 k h1 h3)⟩, h2⟩
theorem Turn.grown {u : Value} (h : Turn mb vc v1 W W') {W2 : World} (hg : W'.grownBy W2 u.ownBlock) (hu : ∀ k, u.ownBlock = some k → W.heap.size ≤ k) : Turn mb vc v1 W W2 :=
  ⟨h.1, fun k h1 h2 h3 => (hg.block k (Nat.lt_of_lt_of_le h1 h.2.2) (fun he => by have := hu k he.symm; omega)).trans (h.2.1 k h1 h2 h3), Nat.le_trans h.2.2 hg.size⟩
/-- A block of another type is as it was. -/
theorem blk_turn {g ty : Nat} {cs : Array Value} (hb : W.heap[g]? = some (.cells cs ty (0, 0))) (hg : g ≠ mb) (hty : ty ≠ 32) (hL : Ls mb w0 wL oka va vars cls vc W) (hT : Turn mb vc v1 W W') : W'.heap[g]? = some (.cells cs ty (0, 0)) :=
  (hT.2.1 g (blk_lt hb) hg (Kd.N_ne hL.2.1 hb (Ne.symm hty))).trans hb
end

set_option maxHeartbeats 2000000 in
/-- add, told by the state. -/
theorem add_ls (mb : Nat) (w0 wL : World) (oka : Nat → Prop) (ho : ∀ k, oka k → k < wL.heap.size ∧ k ≠ mb) (h0 : w0.heap.size ≤ mb) (va vc : Value) (vars : Int) (cls : List (List Int)) (c : List Int) (Al : Option Addr) (cl : Nat) (okp : Nat → Prop) (w : World)
    (hL : Ls mb w0 wL oka va vars cls vc w) (hF : Kd.FK (Kd.slice 3 (Kd.int .i64)) w okp c [.slice Al c.length cl]) (hokp : ∀ k, okp k → (k ≠ mb ∧ ¬ oka k) ∧ some k ≠ vc.ownBlock) (hlen : cls.length ≤ 1000000) :
    Calls Tryd.prog 27 #[.pointer (some ⟨mb, 0, none⟩), .slice Al c.length cl] w fun e w' => e = .returned (.tuple #[]) ∧ ∃ v1, Ls mb w0 wL oka va vars (cls ++ [c]) v1 w' ∧ Turn mb vc v1 w w' := by
  have zm := blk_lt hL.1
  have hfr : ∀ k, w.heap.size ≤ k → k ≠ mb ∧ ¬ oka k := fun k hk => ⟨by omega, fun h => by have := (ho k h).1; have := hL.2.2.2.1; omega⟩
  refine (add_any mb va vc vars cls c Al cl w0.heap.size (fun k => k ≠ mb ∧ ¬ oka k) okp w0 w hL.1 hL.2.1 (fun h => h.1 rfl) hF hokp hfr hL.2.2.1 hL.2.2.1.size h0 hlen).mono ?_
  rintro e w' ⟨rfl, v1, q1, q2, q3, q4, q5, q6⟩
  refine ⟨rfl, v1, ⟨q1, q2, q3, Nat.le_trans hL.2.2.2.1 q6, fun k h1 h2 => ?_⟩, q4, q5, q6⟩
  refine (q5 k (Nat.lt_of_lt_of_le h2 hL.2.2.2.1) (ho k h1).2 (fun he => ?_)).trans (hL.2.2.2.2 k h1 h2)
  exact (hL.2.1.1 k he.symm).2 h1
set_option maxHeartbeats 2000000 in
/-- pairs, told by the state. -/
theorem pairs_ls (mb : Nat) (w0 wL : World) (oka : Nat → Prop) (ho : ∀ k, oka k → k < wL.heap.size ∧ k ≠ mb) (h0 : w0.heap.size ≤ mb) (va vc : Value) (vars h : Int) (cls : List (List Int)) (l : List Int) (Al : Option Addr) (cl : Nat) (w : World)
    (hL : Ls mb w0 wL oka va vars cls vc w) (hF : Kd.F (Kd.int .i64) w (fun k => k ≠ mb ∧ some k ≠ vc.ownBlock) Al l.length l) (hcl : l.length ≤ cl) (hlen : cls.length + l.length ≤ 1000000) :
    Calls Tryd.prog 43 #[.pointer (some ⟨mb, 0, none⟩), .int .i64 h, .slice Al l.length cl] w fun e w' => e = .returned (.tuple #[]) ∧ ∃ v1, Ls mb w0 wL oka va vars (cls ++ l.map fun n => [h, n]) v1 w' ∧ Turn mb vc v1 w w' := by
  have zm := blk_lt hL.1
  have hfr : ∀ k, w.heap.size ≤ k → k ≠ mb ∧ ¬ oka k := fun k hk => ⟨by omega, fun h => by have := (ho k h).1; have := hL.2.2.2.1; omega⟩
  refine (pairs_any mb va vc vars h cls l Al cl w0.heap.size (fun k => k ≠ mb ∧ ¬ oka k) _ w0 w hL.1 hL.2.1 (fun h => h.1 rfl) hF hcl (fun k hk => hk) hfr hL.2.2.1 hL.2.2.1.size h0 hlen).mono ?_
  rintro e w' ⟨rfl, v1, q1, q2, q3, q4, q5, q6⟩
  refine ⟨rfl, v1, ⟨q1, q2, q3, Nat.le_trans hL.2.2.2.1 q6, fun k h1 h2 => ?_⟩, q4, q5, q6⟩
  refine (q5 k (Nat.lt_of_lt_of_le h2 hL.2.2.2.1) (ho k h1).2 (fun he => ?_)).trans (hL.2.2.2.2 k h1 h2)
  exact (hL.2.1.1 k he.symm).2 h1

/-- turned, plain. -/
theorem neg64 {x : Int} (h1 : -1000000 ≤ x) (h2 : x ≤ 1000000) : wrap64 (-x) = -x := by unfold wrap64; omega
theorem turned_l0 (l : List Int) (hb : ∀ x, x ∈ l → -1000000 ≤ x ∧ x ≤ 1000000) : ∀ (d k j : Nat) (acc : List Int), j + d = l.length → d < k → acc.length + d ≤ 1000000 → j + d ≤ 1000000 → cnf_turned.l0 k acc l (l.length : Int) (j : Int) = some (acc ++ (l.drop j).map fun n => -n)
  | 0, k, j, acc, hj, hk, ha, hl => by
    obtain ⟨k, rfl⟩ : ∃ m, k = m + 1 := ⟨k - 1, by omega⟩
    rw [cnf_turned.l0, if_neg (by omega), List.drop_of_length_le (by omega)]; simp
  | d + 1, k, j, acc, hj, hk, ha, hl => by
    obtain ⟨k, rfl⟩ : ∃ m, k = m + 1 := ⟨k - 1, by omega⟩
    have hjl : j < l.length := by omega
    have hrd : rd l (j : Int) = l[j] := by simp [rd, List.getElem?_eq_getElem hjl]
    have hx := hb l[j] (List.getElem_mem hjl)
    have hw : wrap64 ((j : Int) + 1) = ((j + 1 : Nat) : Int) := wrapj (by omega)
    rw [cnf_turned.l0, if_pos (by omega), if_pos (by omega), if_pos (by omega), if_pos (by omega), hrd, neg64 hx.1 hx.2, hw, turned_l0 l hb d k (j + 1) _ (by omega) (by omega) (by simp; omega) (by omega)]
    rw [List.drop_eq_getElem_cons hjl]; simp only [List.map_cons, List.append_assoc, List.cons_append, List.nil_append]
theorem turned_any (a0 : Int) (l : List Int) (A : Option Addr) (c : Nat) (w0 w : World) (hC : Kd.C (Kd.int .i64) w A l.length l) (hc : l.length ≤ c) (hb : ∀ x, x ∈ l → -1000000 ≤ x ∧ x ≤ 1000000) (hl : l.length + 1 ≤ 1000000) (h0 : w0.heap.size ≤ w.heap.size) :
    Calls Tryd.prog 44 #[.int .i64 a0, .slice A l.length c] w fun e w' => ∃ v : Value, e = .returned v ∧ Lr w0 w' v (a0 :: l.map fun n => -n) ∧ Below w.heap.size w w' := by
  have hf : cnf_turned.f (l.length + 1) a0 l = some (a0 :: l.map fun n => -n) := by
    have := turned_l0 l hb l.length (l.length + 1) 0 [a0] (by omega) (by omega) (by simp; omega) (by omega)
    unfold cnf_turned.f
    rw [show ((0 : Nat) : Int) = (0 : Int) from rfl] at this
    rw [this]; simp
  refine (cnf_turned.calls (l.length + 1) a0 A c l _ w hC hc hf).mono ?_
  rintro e w' ⟨v, rfl, hR, hB⟩
  exact ⟨v, rfl, Kd.N_lower (Kd.R_N hR) h0, hB⟩
end Go.Proofs.YthckboogibhjaaaDoor.Trm
