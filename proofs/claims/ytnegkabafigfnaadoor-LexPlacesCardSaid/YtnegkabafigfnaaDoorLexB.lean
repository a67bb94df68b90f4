/- The contract of lex.piece. -/
import Derived.Test.YtnegkabafigfnaaDoorLexA
import Derived.Deep.RegionWith
namespace Go.Proofs.YtnegkabafigfnaaDoor.Lex
open Go.RowKit Go.Shelf
set_option linter.unusedVariables false
set_option linter.unusedSimpArgs false

def PV (k : Int) (t : ByteArray) (b : Bool) : Value := .tuple #[.agg #[.int .i64 k, .string t, .int .i64 0], .bool b]

set_option maxHeartbeats 1000000 in
theorem piece_open (s : ByteArray) (l : List UInt8) (w : World) (hs : s.data.toList = 40 :: l) :
    Calls Tryd.prog 19 #[.string s] w fun e w' => e = .returned (PV 1 ⟨#[40]⟩ true) ∧ Below w.heap.size w w' := by
  have h0 := size_pos hs
  have hc := head_eq hs h0
  clear hs
  unfold PV
  go_enter Tryd.func19, Tryd.ntmps19
  go_wp2
  exact bodyPost_ret (v := PV 1 ⟨#[40]⟩ true) (by simp [results, Tryd.results19, go_sem, PV]) rfl ⟨rfl, (by repeat (first | exact Below.refl _ _ | with_reducible assumption | refine Below.alloc ?_ (by first | exact Nat.le_refl _ | (simp; done) | (simp; omega) | omega) _ | refine Below.setCell ?_ (by first | exact Nat.le_refl _ | (simp; done) | (simp; omega) | omega) _ | refine Below.drew ?_ | refine bdrewN ?_ _))⟩

set_option maxHeartbeats 1000000 in
theorem piece_close (s : ByteArray) (l : List UInt8) (w : World) (hs : s.data.toList = 41 :: l) :
    Calls Tryd.prog 19 #[.string s] w fun e w' => e = .returned (PV 2 ⟨#[41]⟩ true) ∧ Below w.heap.size w w' := by
  have h0 := size_pos hs
  have hc := head_eq hs h0
  clear hs
  unfold PV
  go_enter Tryd.func19, Tryd.ntmps19
  go_wp2
  exact bodyPost_ret (v := PV 2 ⟨#[41]⟩ true) (by simp [results, Tryd.results19, go_sem, PV]) rfl ⟨rfl, (by repeat (first | exact Below.refl _ _ | with_reducible assumption | refine Below.alloc ?_ (by first | exact Nat.le_refl _ | (simp; done) | (simp; omega) | omega) _ | refine Below.setCell ?_ (by first | exact Nat.le_refl _ | (simp; done) | (simp; omega) | omega) _ | refine Below.drew ?_ | refine bdrewN ?_ _))⟩

theorem froz_keeps {W w1 : World} (hb : Below W.heap.size W w1) {b i : Nat} (hl : b < W.heap.size) (h : W.frozen? ⟨b, i, none⟩ = false) : w1.frozen? ⟨b, i, none⟩ = false := by
  rw [hb.frozen (p := ⟨b, i, none⟩) hl, h]
theorem cell_lt {w : World} {b i : Nat} {v : Value} (h : w.cell? ⟨b, i, none⟩ = some v) : b < w.heap.size := by
  by_cases hlt : b < w.heap.size
  · exact hlt
  · rw [World.cell?, Array.getElem?_eq_none (Nat.not_lt.1 hlt)] at h
    simp at h
theorem bdrewN {B : Nat} {a w : World} (h : Below B a w) (n : Nat) : Below B a (w.drewN n) := ⟨h.os, h.tape, h.output, h.size, h.block⟩
theorem box3_store {W : World} {b : Nat} {x y z x' y' z' : Value} (h : W.cell? ⟨b, 0, none⟩ = some x ∧ W.cell? ⟨b, 1, none⟩ = some y ∧ W.cell? ⟨b, 2, none⟩ = some z ∧ W.frozen? ⟨b, 0, none⟩ = false ∧ W.frozen? ⟨b, 1, none⟩ = false ∧ W.frozen? ⟨b, 2, none⟩ = false) :
    (((W.setCell ⟨b, 0, none⟩ x').setCell ⟨b, 1, none⟩ y').setCell ⟨b, 2, none⟩ z').cell? ⟨b, 0, none⟩ = some x' ∧ (((W.setCell ⟨b, 0, none⟩ x').setCell ⟨b, 1, none⟩ y').setCell ⟨b, 2, none⟩ z').cell? ⟨b, 1, none⟩ = some y' ∧ (((W.setCell ⟨b, 0, none⟩ x').setCell ⟨b, 1, none⟩ y').setCell ⟨b, 2, none⟩ z').cell? ⟨b, 2, none⟩ = some z' ∧ (((W.setCell ⟨b, 0, none⟩ x').setCell ⟨b, 1, none⟩ y').setCell ⟨b, 2, none⟩ z').frozen? ⟨b, 0, none⟩ = false ∧ (((W.setCell ⟨b, 0, none⟩ x').setCell ⟨b, 1, none⟩ y').setCell ⟨b, 2, none⟩ z').frozen? ⟨b, 1, none⟩ = false ∧ (((W.setCell ⟨b, 0, none⟩ x').setCell ⟨b, 1, none⟩ y').setCell ⟨b, 2, none⟩ z').frozen? ⟨b, 2, none⟩ = false := by
  obtain ⟨h0, h1, h2, g0, g1, g2⟩ := h
  refine ⟨?_, ?_, ?_, ?_, ?_, ?_⟩
  · simp [go_sem, h0, h1, h2]
  · simp [go_sem, h0, h1, h2]
  · simp [go_sem, h0, h1, h2]
  · simp [go_sem, g0]
  · simp [go_sem, g1]
  · simp [go_sem, g2]
theorem box3_drew {W : World} {b : Nat} {x y z x' y' z' : Value} (h : W.drew.cell? ⟨b, 0, none⟩ = some x ∧ W.drew.cell? ⟨b, 1, none⟩ = some y ∧ W.drew.cell? ⟨b, 2, none⟩ = some z ∧ W.drew.frozen? ⟨b, 0, none⟩ = false ∧ W.drew.frozen? ⟨b, 1, none⟩ = false ∧ W.drew.frozen? ⟨b, 2, none⟩ = false) :
    (((W.setCell ⟨b, 0, none⟩ x').setCell ⟨b, 1, none⟩ y').setCell ⟨b, 2, none⟩ z').drew.cell? ⟨b, 0, none⟩ = some x' ∧ (((W.setCell ⟨b, 0, none⟩ x').setCell ⟨b, 1, none⟩ y').setCell ⟨b, 2, none⟩ z').drew.cell? ⟨b, 1, none⟩ = some y' ∧ (((W.setCell ⟨b, 0, none⟩ x').setCell ⟨b, 1, none⟩ y').setCell ⟨b, 2, none⟩ z').drew.cell? ⟨b, 2, none⟩ = some z' ∧ (((W.setCell ⟨b, 0, none⟩ x').setCell ⟨b, 1, none⟩ y').setCell ⟨b, 2, none⟩ z').drew.frozen? ⟨b, 0, none⟩ = false ∧ (((W.setCell ⟨b, 0, none⟩ x').setCell ⟨b, 1, none⟩ y').setCell ⟨b, 2, none⟩ z').drew.frozen? ⟨b, 1, none⟩ = false ∧ (((W.setCell ⟨b, 0, none⟩ x').setCell ⟨b, 1, none⟩ y').setCell ⟨b, 2, none⟩ z').drew.frozen? ⟨b, 2, none⟩ = false := box3_store (W := W) h
theorem piece_ret {w W : World} {k : Int} {t : ByteArray} {b : Bool} {tm : Array Value} (h2 : tm.getD 2 undef = .pointer (some ⟨w.heap.size, 0, none⟩)) (h3 : tm.getD 3 undef = .bool b)
    (h : W.cell? ⟨w.heap.size, 0, none⟩ = some (.int .i64 k) ∧ W.cell? ⟨w.heap.size, 1, none⟩ = some (.string t) ∧ W.cell? ⟨w.heap.size, 2, none⟩ = some (.int .i64 0) ∧ W.frozen? ⟨w.heap.size, 0, none⟩ = false ∧ W.frozen? ⟨w.heap.size, 1, none⟩ = false ∧ W.frozen? ⟨w.heap.size, 2, none⟩ = false) (hb : Below w.heap.size w W) :
    bodyPost Tryd.prog Tryd.f19 (fun e w' => e = .returned (PV k t b) ∧ Below w.heap.size w w') .ret ⟨tm, []⟩ W := by
  obtain ⟨q0, q1, q2, -⟩ := h
  simp only [Array.getD_eq_getD_getElem?] at h2 h3
  exact bodyPost_ret (v := PV k t b) (by simp [results, Tryd.results19, go_sem, PV, Act.eval, h2, h3, q0, q1, q2]) rfl ⟨rfl, hb⟩
theorem endOK_nil : endOK [] = true := rfl
theorem endOK_ne {r : List UInt8} (h : r ≠ []) : endOK r = isP r behindL := by
  cases r with
  | nil => exact absurd rfl h
  | cons c l => rfl

theorem byte_ne {c : UInt8} {n : Nat} (h : c.toNat ≠ n) : ((c.toNat : Int) == n) = false := by
  rw [beq_eq_false_iff_ne]; intro h2; apply h; omega
theorem rest_of {s : ByteArray} {x : List UInt8} (hs : s.data.toList = x) (n : Nat) : (s.extract n s.size).data.toList = x.drop n := by
  rw [Lib.extract_data, hs, List.take_of_length_le]
  rw [List.length_drop, ← hs, size_eq]; exact Nat.le_refl _

set_option maxRecDepth 100000 in
set_option maxHeartbeats 2000000 in
theorem piece_word1 (s : ByteArray) (c : UInt8) (tl rl : List UInt8) (w : World) (h0 : 0 < s.size) (hc : s[0] = c) (e40 : ((c.toNat : Int) == 40) = false) (e41 : ((c.toNat : Int) == 41) = false) (hz : s.size < 4294967281)
    (k1 : Hid (∀ W, Calls Tryd.prog 30 #[.string s, .string ⟨lettersL.toArray⟩] W fun e w' => e = .returned (.bool true) ∧ W = w'))
    (k2 : Hid (∀ W, Calls Tryd.prog 31 #[.string s, .string ⟨innerL.toArray⟩] W fun e w' => e = .returned (.string ⟨tl.toArray⟩) ∧ Below W.heap.size W w'))
    (htl : tl.length ≤ s.size) (hrest : (s.extract tl.length s.size).data.toList = rl) :
    Calls Tryd.prog 19 #[.string s] w fun e w' => e = .returned (PV 3 ⟨tl.toArray⟩ (endOK rl)) ∧ Below w.heap.size w w' := by
  have hrl : (s.extract tl.length s.size).toList = rl := by rw [ByteArray.toList_eq]; exact hrest
  have k3 := Lib.hid (fun W => is_any (s.extract tl.length s.size) ⟨behindL.toArray⟩ W)
  rw [hrest] at k3
  clear hrest
  unfold lettersL at k1
  go_enter Tryd.func19, Tryd.ntmps19
  go_wp2_with fail
  refine (k1.out _).mono ?_
  rintro e w1 ⟨rfl, rfl⟩
  go_wp2_with fail
  refine (k2.out _).mono ?_
  rintro e w1 ⟨rfl, hb1⟩
  have hbw : Below w.heap.size w w1 := by refine Below.trans ?_ (hb1.mono (by first | exact Nat.le_refl _ | (simp; done) | (simp; omega) | omega)); exact (by repeat (first | exact Below.refl _ _ | with_reducible assumption | refine Below.alloc ?_ (by first | exact Nat.le_refl _ | (simp; done) | (simp; omega) | omega) _ | refine Below.setCell ?_ (by first | exact Nat.le_refl _ | (simp; done) | (simp; omega) | omega) _ | refine Below.drew ?_ | refine bdrewN ?_ _))
  have c0 : w1.cell? ⟨w.heap.size, 0, none⟩ = some (.int .i64 0) := cell_keeps hb1 (by simp [go_sem])
  have c1 : w1.cell? ⟨w.heap.size, 1, none⟩ = some (.string ⟨#[]⟩) := cell_keeps hb1 (by simp [go_sem])
  have c2 : w1.cell? ⟨w.heap.size, 2, none⟩ = some (.int .i64 0) := cell_keeps hb1 (by simp [go_sem])
  have f0 : w1.frozen? ⟨w.heap.size, 0, none⟩ = false := froz_keeps hb1 (by simp) (by simp [go_sem])
  have f1 : w1.frozen? ⟨w.heap.size, 1, none⟩ = false := froz_keeps hb1 (by simp) (by simp [go_sem])
  have f2 : w1.frozen? ⟨w.heap.size, 2, none⟩ = false := froz_keeps hb1 (by simp) (by simp [go_sem])
  have hz1 := cell_lt c0
  go_wp2
  by_cases hr : rl = []
  · subst hr
    clear k3
    refine wp_region_held_drew (S := (fun w' => w'.cell? ⟨w.heap.size, 0, none⟩ = some (.int .i64 3) ∧ w'.cell? ⟨w.heap.size, 1, none⟩ = some (.string ⟨tl.toArray⟩) ∧ w'.cell? ⟨w.heap.size, 2, none⟩ = some (.int .i64 0) ∧ w'.frozen? ⟨w.heap.size, 0, none⟩ = false ∧ w'.frozen? ⟨w.heap.size, 1, none⟩ = false ∧ w'.frozen? ⟨w.heap.size, 2, none⟩ = false)) (by kernel_rfl) ?_ (fun hHeld => ?_)
    · first | exact ⟨by simp [go_sem, c0, c1, c2], by simp [go_sem, c0, c1, c2], by simp [go_sem, c0, c1, c2], by simp [go_sem, f0, f1, f2], by simp [go_sem, f0, f1, f2], by simp [go_sem, f0, f1, f2]⟩ | (simp [go_sem]; done)
    refine wpAnyH_take (i := 0) (oi := { dst := some 59, op := Go.Op.load 35 (Go.Operand.tmp 2), type := 35, pos := "lex.go:58", after := #[], guard := none }) (v := ?_) rfl (by kernel_rfl) (by kernel_rfl) (by kernel_rfl) (fun _ _ _ h => h) (Or.inl ⟨by rfl, ?_⟩) (by assumption) ?_
    rotate_left 1
    · intro w_ hSw; (try dsimp only at hSw); go_simp; all_goals (with_reducible rfl)
    focus try simp only [Act.put, List.setIfInBounds_toArray, List.set_cons_zero, List.set_cons_succ]
    refine wpAnyH_take (i := 1) (oi := { dst := some 60, op := Go.Op.move (Go.Operand.tmp 7), type := 9, pos := "lex.go:58", after := #[], guard := none }) (v := ?_) rfl (by kernel_rfl) (by kernel_rfl) (by kernel_rfl) (fun _ _ _ h => h) (Or.inl ⟨by rfl, ?_⟩) (by assumption) ?_
    rotate_left 1
    · intro w_ hSw; (try dsimp only at hSw); go_simp; all_goals (with_reducible rfl)
    focus try simp only [Act.put, List.setIfInBounds_toArray, List.set_cons_zero, List.set_cons_succ]
    refine wpAnyH_take (i := 2) (oi := { dst := some 61, op := Go.Op.binOp Go.BinOp.eql 9 (Go.Operand.tmp 60) (Go.Operand.const (Go.Value.string { data := #[] })) 9, type := 4, pos := "lex.go:58", after := #[{ on := 1, ground := Go.Ground.data }], guard := none }) (v := ?_) rfl (by kernel_rfl) (by kernel_rfl) (by kernel_rfl) (fun _ _ _ h => h) (Or.inl ⟨by rfl, ?_⟩) (by assumption) ?_
    rotate_left 1
    · intro w_ hSw; (try dsimp only at hSw); go_simp; all_goals (with_reducible rfl)
    focus try simp only [Act.put, List.setIfInBounds_toArray, List.set_cons_zero, List.set_cons_succ]
    refine wpAnyH_take (i := 3) (oi := { dst := some 62, op := Go.Op.move (Go.Operand.tmp 61), type := 4, pos := "lex.go:58", after := #[{ on := 2, ground := Go.Ground.data }], guard := none }) (v := ?_) rfl (by kernel_rfl) (by kernel_rfl) (by kernel_rfl) (fun _ _ _ h => h) (Or.inl ⟨by rfl, ?_⟩) (by assumption) ?_
    rotate_left 1
    · intro w_ hSw; (try dsimp only at hSw); go_simp; all_goals (with_reducible rfl)
    focus try simp only [Act.put, List.setIfInBounds_toArray, List.set_cons_zero, List.set_cons_succ]
    first | (refine wpAnyH_take (i := 4) (oi := { dst := some 63, op := Go.Op.move (Go.Operand.tmp 7), type := 9, pos := "lex.go:58", after := #[{ on := 3, ground := Go.Ground.guard }], guard := some (3, false) }) (v := ?_) rfl (by kernel_rfl) (by kernel_rfl) (by kernel_rfl) (fun _ _ _ h => h) (Or.inl ⟨by rfl, ?_⟩) (by assumption) ?_; rotate_left 1; focus (intro w_ hSw; (try dsimp only at hSw); go_simp; all_goals (with_reducible rfl); done)) | (refine wpAnyH_take (i := 4) (oi := { dst := some 63, op := Go.Op.move (Go.Operand.tmp 7), type := 9, pos := "lex.go:58", after := #[{ on := 3, ground := Go.Ground.guard }], guard := some (3, false) }) rfl (by kernel_rfl) (by kernel_rfl) (by kernel_rfl) (fun _ _ _ h => h) (Or.inr ⟨by rfl, rfl⟩) (by assumption) ?_)
    focus try simp only [Act.put, List.setIfInBounds_toArray, List.set_cons_zero, List.set_cons_succ]
    refine wpAnyH_ready (rs := [5]) (by kernel_rfl) (by simp) ?_
    refine AllReadyH.cons (o := { dst := some 64, op := Go.Op.call { callee := Go.Callee.value (Go.Operand.func 30), args := #[Go.Operand.tmp 63, Go.Operand.const (Go.Value.string { data := #[9, 10, 13, 32, 59, 40, 41] })], argTypes := #[9, 9] }, type := 4, pos := "lex.go:58", after := #[{ on := 4, ground := Go.Ground.data }, { on := 3, ground := Go.Ground.chain }, { on := 3, ground := Go.Ground.guard }], guard := some (3, false) }) rfl (fun K hK => ?_) (AllReadyH.nil)
    focus go_simp
    refine hK.out _ _ ?_ (fun hHeld => ?_)
    · first | exact ⟨by simp [go_sem, c0, c1, c2], by simp [go_sem, c0, c1, c2], by simp [go_sem, c0, c1, c2], by simp [go_sem, f0, f1, f2], by simp [go_sem, f0, f1, f2], by simp [go_sem, f0, f1, f2]⟩ | (simp [go_sem]; done)
    focus clear hK K
    focus try simp only [Act.put, List.setIfInBounds_toArray, List.set_cons_zero, List.set_cons_succ]
    refine wpAnyH_take (i := 6) (oi := { dst := some 65, op := Go.Op.pick (Go.Operand.tmp 62) (Go.Operand.const (Go.Value.bool true)) (Go.Operand.tmp 64), type := 4, pos := "lex.go:58", after := #[{ on := 3, ground := Go.Ground.data }, { on := 5, ground := Go.Ground.data }, { on := 7, ground := Go.Ground.gcOnly Go.Departure.lateStores }], guard := none }) (v := ?_) rfl (by kernel_rfl) (by kernel_rfl) (by kernel_rfl) (fun _ _ _ h => h) (Or.inl ⟨by rfl, ?_⟩) (by assumption) ?_
    rotate_left 1
    · intro w_ hSw; (try dsimp only at hSw); go_simp; all_goals (with_reducible rfl)
    focus try simp only [Act.put, List.setIfInBounds_toArray, List.set_cons_zero, List.set_cons_succ]
    refine wpAnyH_ready (rs := [7]) (by kernel_rfl) (by simp) ?_
    refine AllReadyH.cons (o := { dst := none, op := Go.Op.store 35 (Go.Operand.tmp 2) (Go.Operand.tmp 59), type := 0, pos := "lex.go:58", after := #[{ on := 0, ground := Go.Ground.data }, { on := 5, ground := Go.Ground.chain }, { on := 0, ground := Go.Ground.phase }, { on := 1, ground := Go.Ground.textOnly Go.Departure.lateStores }, { on := 2, ground := Go.Ground.textOnly Go.Departure.lateStores }, { on := 3, ground := Go.Ground.textOnly Go.Departure.lateStores }, { on := 4, ground := Go.Ground.textOnly Go.Departure.lateStores }, { on := 5, ground := Go.Ground.textOnly Go.Departure.lateStoresUnsure }, { on := 6, ground := Go.Ground.textOnly Go.Departure.lateStores }], guard := none }) rfl (fun K hK => ?_) (AllReadyH.nil)
    focus go_simp
    refine hK.out _ _ ?_ (fun hHeld => ?_)
    · exact box3_drew hHeld
    focus clear hK K
    focus try simp only [Act.put, List.setIfInBounds_toArray, List.set_cons_zero, List.set_cons_succ]
    refine wpAnyH_take (i := 8) (oi := { dst := some 3, op := Go.Op.assign (Go.Operand.tmp 65), type := 4, pos := "lex.go:58", after := #[{ on := 6, ground := Go.Ground.data }, { on := 7, ground := Go.Ground.chain }, { on := 0, ground := Go.Ground.phase }, { on := 1, ground := Go.Ground.phase }, { on := 2, ground := Go.Ground.phase }, { on := 3, ground := Go.Ground.phase }, { on := 4, ground := Go.Ground.phase }, { on := 5, ground := Go.Ground.phase }, { on := 6, ground := Go.Ground.phase }, { on := 7, ground := Go.Ground.phase }], guard := none }) (v := ?_) rfl (by kernel_rfl) (by kernel_rfl) (by kernel_rfl) (fun _ _ _ h => h) (Or.inl ⟨by rfl, ?_⟩) (by assumption) ?_
    rotate_left 1
    · intro w_ hSw; (try dsimp only at hSw); go_simp; all_goals (with_reducible rfl)
    focus try simp only [Act.put, List.setIfInBounds_toArray, List.set_cons_zero, List.set_cons_succ]
    refine wpAnyH_done (by kernel_rfl) ?_ _
    rotate_left 1
    all_goals (
      have hq := hHeld
      go_wp2
      exact piece_ret rfl rfl hq (by repeat (first | with_reducible exact Below.refl _ _ | with_reducible assumption | with_reducible refine Below.alloc ?_ (by first | exact Nat.le_refl _ | (simp; done) | (simp; omega) | omega) _ | with_reducible refine Below.setCell ?_ (by first | exact Nat.le_refl _ | (simp; done) | (simp; omega) | omega) _ | with_reducible refine Below.drew ?_ | with_reducible refine bdrewN ?_ _)))
  · have hr2 : ¬ (s.extract tl.length s.size).toList = [] := by rw [hrl]; exact hr
    have hE := endOK_ne hr
    have hr3 : (s.extract tl.length s.size).toList.isEmpty = false := by rw [hrl]; cases rl with | nil => exact absurd rfl hr | cons _ _ => rfl
    clear hrl hr
    generalize isP rl behindL = bb at *
    unfold behindL at k3
    subst hE
    refine wp_region_held_drew (S := (fun w' => w'.cell? ⟨w.heap.size, 0, none⟩ = some (.int .i64 3) ∧ w'.cell? ⟨w.heap.size, 1, none⟩ = some (.string ⟨tl.toArray⟩) ∧ w'.cell? ⟨w.heap.size, 2, none⟩ = some (.int .i64 0) ∧ w'.frozen? ⟨w.heap.size, 0, none⟩ = false ∧ w'.frozen? ⟨w.heap.size, 1, none⟩ = false ∧ w'.frozen? ⟨w.heap.size, 2, none⟩ = false)) (by kernel_rfl) ?_ (fun hHeld => ?_)
    · first | exact ⟨by simp [go_sem, c0, c1, c2], by simp [go_sem, c0, c1, c2], by simp [go_sem, c0, c1, c2], by simp [go_sem, f0, f1, f2], by simp [go_sem, f0, f1, f2], by simp [go_sem, f0, f1, f2]⟩ | (simp [go_sem]; done)
    refine wpAnyH_take (i := 0) (oi := { dst := some 59, op := Go.Op.load 35 (Go.Operand.tmp 2), type := 35, pos := "lex.go:58", after := #[], guard := none }) (v := ?_) rfl (by kernel_rfl) (by kernel_rfl) (by kernel_rfl) (fun _ _ _ h => h) (Or.inl ⟨by rfl, ?_⟩) (by assumption) ?_
    rotate_left 1
    · intro w_ hSw; (try dsimp only at hSw); go_simp; all_goals (with_reducible rfl)
    focus try simp only [Act.put, List.setIfInBounds_toArray, List.set_cons_zero, List.set_cons_succ]
    refine wpAnyH_take (i := 1) (oi := { dst := some 60, op := Go.Op.move (Go.Operand.tmp 7), type := 9, pos := "lex.go:58", after := #[], guard := none }) (v := ?_) rfl (by kernel_rfl) (by kernel_rfl) (by kernel_rfl) (fun _ _ _ h => h) (Or.inl ⟨by rfl, ?_⟩) (by assumption) ?_
    rotate_left 1
    · intro w_ hSw; (try dsimp only at hSw); go_simp; all_goals (with_reducible rfl)
    focus try simp only [Act.put, List.setIfInBounds_toArray, List.set_cons_zero, List.set_cons_succ]
    refine wpAnyH_take (i := 2) (oi := { dst := some 61, op := Go.Op.binOp Go.BinOp.eql 9 (Go.Operand.tmp 60) (Go.Operand.const (Go.Value.string { data := #[] })) 9, type := 4, pos := "lex.go:58", after := #[{ on := 1, ground := Go.Ground.data }], guard := none }) (v := ?_) rfl (by kernel_rfl) (by kernel_rfl) (by kernel_rfl) (fun _ _ _ h => h) (Or.inl ⟨by rfl, ?_⟩) (by assumption) ?_
    rotate_left 1
    · intro w_ hSw; (try dsimp only at hSw); go_simp; all_goals (with_reducible rfl)
    focus try simp only [Act.put, List.setIfInBounds_toArray, List.set_cons_zero, List.set_cons_succ]
    refine wpAnyH_take (i := 3) (oi := { dst := some 62, op := Go.Op.move (Go.Operand.tmp 61), type := 4, pos := "lex.go:58", after := #[{ on := 2, ground := Go.Ground.data }], guard := none }) (v := ?_) rfl (by kernel_rfl) (by kernel_rfl) (by kernel_rfl) (fun _ _ _ h => h) (Or.inl ⟨by rfl, ?_⟩) (by assumption) ?_
    rotate_left 1
    · intro w_ hSw; (try dsimp only at hSw); go_simp; all_goals (with_reducible rfl)
    focus try simp only [Act.put, List.setIfInBounds_toArray, List.set_cons_zero, List.set_cons_succ]
    first | (refine wpAnyH_take (i := 4) (oi := { dst := some 63, op := Go.Op.move (Go.Operand.tmp 7), type := 9, pos := "lex.go:58", after := #[{ on := 3, ground := Go.Ground.guard }], guard := some (3, false) }) (v := ?_) rfl (by kernel_rfl) (by kernel_rfl) (by kernel_rfl) (fun _ _ _ h => h) (Or.inl ⟨by rfl, ?_⟩) (by assumption) ?_; rotate_left 1; focus (intro w_ hSw; (try dsimp only at hSw); go_simp; all_goals (with_reducible rfl); done)) | (refine wpAnyH_take (i := 4) (oi := { dst := some 63, op := Go.Op.move (Go.Operand.tmp 7), type := 9, pos := "lex.go:58", after := #[{ on := 3, ground := Go.Ground.guard }], guard := some (3, false) }) rfl (by kernel_rfl) (by kernel_rfl) (by kernel_rfl) (fun _ _ _ h => h) (Or.inr ⟨by rfl, rfl⟩) (by assumption) ?_)
    focus try simp only [Act.put, List.setIfInBounds_toArray, List.set_cons_zero, List.set_cons_succ]
    refine wpAnyH_ready (rs := [5]) (by kernel_rfl) (by simp) ?_
    refine AllReadyH.cons (o := { dst := some 64, op := Go.Op.call { callee := Go.Callee.value (Go.Operand.func 30), args := #[Go.Operand.tmp 63, Go.Operand.const (Go.Value.string { data := #[9, 10, 13, 32, 59, 40, 41] })], argTypes := #[9, 9] }, type := 4, pos := "lex.go:58", after := #[{ on := 4, ground := Go.Ground.data }, { on := 3, ground := Go.Ground.chain }, { on := 3, ground := Go.Ground.guard }], guard := some (3, false) }) rfl (fun K hK => ?_) (AllReadyH.nil)
    focus go_simp
    focus (refine (k3.out _).mono ?_; rintro e wz ⟨rfl, rfl⟩)
    focus try simp only []
    refine hK.out _ _ ?_ (fun hHeld => ?_)
    · exact hHeld
    focus clear hK K
    focus try simp only [Act.put, List.setIfInBounds_toArray, List.set_cons_zero, List.set_cons_succ]
    refine wpAnyH_take (i := 6) (oi := { dst := some 65, op := Go.Op.pick (Go.Operand.tmp 62) (Go.Operand.const (Go.Value.bool true)) (Go.Operand.tmp 64), type := 4, pos := "lex.go:58", after := #[{ on := 3, ground := Go.Ground.data }, { on := 5, ground := Go.Ground.data }, { on := 7, ground := Go.Ground.gcOnly Go.Departure.lateStores }], guard := none }) (v := ?_) rfl (by kernel_rfl) (by kernel_rfl) (by kernel_rfl) (fun _ _ _ h => h) (Or.inl ⟨by rfl, ?_⟩) (by assumption) ?_
    rotate_left 1
    · intro w_ hSw; (try dsimp only at hSw); go_simp; all_goals (with_reducible rfl)
    focus try simp only [Act.put, List.setIfInBounds_toArray, List.set_cons_zero, List.set_cons_succ]
    refine wpAnyH_ready (rs := [7]) (by kernel_rfl) (by simp) ?_
    refine AllReadyH.cons (o := { dst := none, op := Go.Op.store 35 (Go.Operand.tmp 2) (Go.Operand.tmp 59), type := 0, pos := "lex.go:58", after := #[{ on := 0, ground := Go.Ground.data }, { on := 5, ground := Go.Ground.chain }, { on := 0, ground := Go.Ground.phase }, { on := 1, ground := Go.Ground.textOnly Go.Departure.lateStores }, { on := 2, ground := Go.Ground.textOnly Go.Departure.lateStores }, { on := 3, ground := Go.Ground.textOnly Go.Departure.lateStores }, { on := 4, ground := Go.Ground.textOnly Go.Departure.lateStores }, { on := 5, ground := Go.Ground.textOnly Go.Departure.lateStoresUnsure }, { on := 6, ground := Go.Ground.textOnly Go.Departure.lateStores }], guard := none }) rfl (fun K hK => ?_) (AllReadyH.nil)
    focus go_simp
    refine hK.out _ _ ?_ (fun hHeld => ?_)
    · exact box3_drew hHeld
    focus clear hK K
    focus try simp only [Act.put, List.setIfInBounds_toArray, List.set_cons_zero, List.set_cons_succ]
    refine wpAnyH_take (i := 8) (oi := { dst := some 3, op := Go.Op.assign (Go.Operand.tmp 65), type := 4, pos := "lex.go:58", after := #[{ on := 6, ground := Go.Ground.data }, { on := 7, ground := Go.Ground.chain }, { on := 0, ground := Go.Ground.phase }, { on := 1, ground := Go.Ground.phase }, { on := 2, ground := Go.Ground.phase }, { on := 3, ground := Go.Ground.phase }, { on := 4, ground := Go.Ground.phase }, { on := 5, ground := Go.Ground.phase }, { on := 6, ground := Go.Ground.phase }, { on := 7, ground := Go.Ground.phase }], guard := none }) (v := ?_) rfl (by kernel_rfl) (by kernel_rfl) (by kernel_rfl) (fun _ _ _ h => h) (Or.inl ⟨by rfl, ?_⟩) (by assumption) ?_
    rotate_left 1
    · intro w_ hSw; (try dsimp only at hSw); go_simp; all_goals (with_reducible rfl)
    focus try simp only [Act.put, List.setIfInBounds_toArray, List.set_cons_zero, List.set_cons_succ]
    refine wpAnyH_done (by kernel_rfl) ?_ _
    rotate_left 1
    all_goals (
      have hq := hHeld
      go_wp2
      exact piece_ret rfl rfl hq (by repeat (first | with_reducible exact Below.refl _ _ | with_reducible assumption | with_reducible refine Below.alloc ?_ (by first | exact Nat.le_refl _ | (simp; done) | (simp; omega) | omega) _ | with_reducible refine Below.setCell ?_ (by first | exact Nat.le_refl _ | (simp; done) | (simp; omega) | omega) _ | with_reducible refine Below.drew ?_ | with_reducible refine bdrewN ?_ _)))

/-- lex.piece of a word. -/
theorem piece_word (s : ByteArray) (c : UInt8) (l : List UInt8) (w : World) (hs : s.data.toList = c :: l) (h40 : c ≠ 40) (h41 : c ≠ 41) (hl : lettersL.contains c = true) (hz : s.size < 4294967281) :
    Calls Tryd.prog 19 #[.string s] w fun e w' => e = .returned (PV 3 ⟨((c :: l).takeWhile (innerL.contains ·)).toArray⟩ (endOK ((c :: l).drop ((c :: l).takeWhile (innerL.contains ·)).length))) ∧ Below w.heap.size w w' := by
  have h0 := size_pos hs
  have k1 := Lib.hid (fun W => is_any s ⟨lettersL.toArray⟩ W)
  rw [hs, show isP (c :: l) (⟨lettersL.toArray⟩ : ByteArray).data.toList = true from hl] at k1
  have k2 := Lib.hid (fun W => run_any s ⟨innerL.toArray⟩ W hz (by decide) (by decide))
  rw [hs] at k2
  refine piece_word1 s c _ _ w h0 (head_eq hs h0) (byte_ne (n := 40) fun h => h40 (UInt8.toNat_inj.1 h)) (byte_ne (n := 41) fun h => h41 (UInt8.toNat_inj.1 h)) hz k1 k2 ?_ (rest_of hs _)
  rw [← size_eq, hs]; exact (List.takeWhile_sublist _).length_le
end Go.Proofs.YtnegkabafigfnaaDoor.Lex
