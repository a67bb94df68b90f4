/- The contract of lex.piece at a number. -/
import Derived.Test.YtnegkabafigfnaaDoorLexB
namespace Go.Proofs.YtnegkabafigfnaaDoor.Lex
open Go.RowKit Go.Shelf
set_option linter.unusedVariables false
set_option linter.unusedSimpArgs false

set_option maxRecDepth 100000 in
set_option maxHeartbeats 4000000 in
theorem piece_num_no (s : ByteArray) (c : UInt8) (r0 tx : ByteArray) (dl : List UInt8) (w : World) (hG : LexGood w) (h0 : 0 < s.size) (hc : s[0] = c) (e40 : ((c.toNat : Int) == 40) = false) (e41 : ((c.toNat : Int) == 41) = false) (hz : s.size < 4294967281)
    (k1 : Hid (∀ W, Calls Tryd.prog 30 #[.string s, .string ⟨lettersL.toArray⟩] W fun e w' => e = .returned (.bool false) ∧ W = w'))
    (kT : Hid (∀ W, Calls Tryd.prog 32 #[.string s, .string ⟨#[45]⟩] W fun e w' => e = .returned (.string r0) ∧ w' = W))
    (k2 : Hid (∀ W, Calls Tryd.prog 31 #[.string r0, .string ⟨digitsL.toArray⟩] W fun e w' => e = .returned (.string ⟨dl.toArray⟩) ∧ Below W.heap.size W w'))
    (hr0 : r0.size ≤ s.size) (hdl : dl.length ≤ r0.size) (htx : s.extract 0 (s.size - r0.size + dl.length) = tx)
    (kp : Hid (∀ W, LexGood W → Calls Tryd.prog 33 #[.string tx, .int .i64 10, .int .i64 64] W fun e w' => (∃ v N, e = .returned (.tuple #[.int .i64 v, .iface 83 (.pointer (some ⟨N, 0, none⟩))])) ∧ Below W.heap.size W w')) :
    Calls Tryd.prog 19 #[.string s] w fun e w' => e = .returned (PV 0 ⟨#[]⟩ false) ∧ Below w.heap.size w w' := by
  have hw1 : wrap64 (↑s.size - ↑r0.size) = ((s.size - r0.size : Nat) : Int) := by unfold wrap64; omega
  have hw2 : wrap64 (((s.size - r0.size : Nat) : Int) + ↑dl.length) = ((s.size - r0.size + dl.length : Nat) : Int) := by unfold wrap64; omega
  have hn : s.size - r0.size + dl.length ≤ s.size := by omega
  have htl : tx.size ≤ s.size := by rw [← htx, ByteArray.size_extract]; omega
  have HG := Lib.hid hG
  clear hG
  unfold lettersL at k1
  go_enter Tryd.func19, Tryd.ntmps19
  go_wp2_with fail
  refine (k1.out _).mono ?_
  rintro e w1 ⟨rfl, rfl⟩
  go_wp2_with fail
  refine (kT.out _).mono ?_
  rintro e w1 ⟨rfl, rfl⟩
  go_wp2_with fail
  refine (k2.out _).mono ?_
  rintro e w1 ⟨rfl, hb1⟩
  have hbw : Below w.heap.size w w1 := by refine Below.trans ?_ (hb1.mono (by first | exact Nat.le_refl _ | (simp; done) | (simp; omega) | omega)); exact (by repeat (first | exact Below.refl _ _ | with_reducible assumption | refine Below.alloc ?_ (by first | exact Nat.le_refl _ | (simp; done) | (simp; omega) | omega) _ | refine Below.setCell ?_ (by first | exact Nat.le_refl _ | (simp; done) | (simp; omega) | omega) _ | refine Below.drew ?_ | refine bdrewN ?_ _))
  have c0_1 : w1.cell? ⟨w.heap.size, 0, none⟩ = some (.int .i64 0) := cell_keeps hb1 (by simp [go_sem])
  have c1_1 : w1.cell? ⟨w.heap.size, 1, none⟩ = some (.string ⟨#[]⟩) := cell_keeps hb1 (by simp [go_sem])
  have c2_1 : w1.cell? ⟨w.heap.size, 2, none⟩ = some (.int .i64 0) := cell_keeps hb1 (by simp [go_sem])
  have f0_1 : w1.frozen? ⟨w.heap.size, 0, none⟩ = false := froz_keeps hb1 (by first | (simp; done) | (simp; omega)) (by simp [go_sem])
  have f1_1 : w1.frozen? ⟨w.heap.size, 1, none⟩ = false := froz_keeps hb1 (by first | (simp; done) | (simp; omega)) (by simp [go_sem])
  have f2_1 : w1.frozen? ⟨w.heap.size, 2, none⟩ = false := froz_keeps hb1 (by first | (simp; done) | (simp; omega)) (by simp [go_sem])
  have hz1 := cell_lt c0_1
  go_wp2_with fail
  refine (kp.out _ (LexGood.on HG.out (by repeat (first | with_reducible exact Below.refl _ _ | with_reducible assumption | with_reducible refine Below.alloc ?_ (by first | exact Nat.le_refl _ | (simp; done) | (simp; omega) | omega) _ | with_reducible refine Below.setCell ?_ (by first | exact Nat.le_refl _ | (simp; done) | (simp; omega) | omega) _ | with_reducible refine Below.drew ?_ | with_reducible refine bdrewN ?_ _)))).mono ?_
  rintro e w2 ⟨⟨v, N, rfl⟩, hb2⟩
  have hbw2 : Below w.heap.size w w2 := by refine Below.trans ?_ (hb2.mono (by simp; omega)); exact (by repeat (first | with_reducible exact Below.refl _ _ | with_reducible assumption | with_reducible refine Below.alloc ?_ (by first | exact Nat.le_refl _ | (simp; done) | (simp; omega) | omega) _ | with_reducible refine Below.setCell ?_ (by first | exact Nat.le_refl _ | (simp; done) | (simp; omega) | omega) _ | with_reducible refine Below.drew ?_ | with_reducible refine bdrewN ?_ _))
  have c0_2 : w2.cell? ⟨w.heap.size, 0, none⟩ = some (.int .i64 4) := cell_keeps hb2 (by simp [go_sem, c0_1, c1_1, c2_1])
  have c1_2 : w2.cell? ⟨w.heap.size, 1, none⟩ = some (.string tx) := cell_keeps hb2 (by simp [go_sem, c0_1, c1_1, c2_1])
  have c2_2 : w2.cell? ⟨w.heap.size, 2, none⟩ = some (.int .i64 0) := cell_keeps hb2 (by simp [go_sem, c0_1, c1_1, c2_1])
  have f0_2 : w2.frozen? ⟨w.heap.size, 0, none⟩ = false := froz_keeps hb2 (by first | (simp; done) | (simp; omega)) (by simp [go_sem, f0_1, f1_1, f2_1])
  have f1_2 : w2.frozen? ⟨w.heap.size, 1, none⟩ = false := froz_keeps hb2 (by first | (simp; done) | (simp; omega)) (by simp [go_sem, f0_1, f1_1, f2_1])
  have f2_2 : w2.frozen? ⟨w.heap.size, 2, none⟩ = false := froz_keeps hb2 (by first | (simp; done) | (simp; omega)) (by simp [go_sem, f0_1, f1_1, f2_1])
  have hz2 := cell_lt c0_2
  go_wp2
  refine wp_region_held_drew (S := (fun w' => w'.cell? ⟨w.heap.size, 0, none⟩ = some (.int .i64 4) ∧ w'.cell? ⟨w.heap.size, 1, none⟩ = some (.string tx) ∧ w'.cell? ⟨w.heap.size, 2, none⟩ = some (.int .i64 0) ∧ w'.frozen? ⟨w.heap.size, 0, none⟩ = false ∧ w'.frozen? ⟨w.heap.size, 1, none⟩ = false ∧ w'.frozen? ⟨w.heap.size, 2, none⟩ = false)) (by kernel_rfl) ?_ (fun hHeld => ?_)
  · first | exact ⟨by simp [go_sem, c0_2, c1_2, c2_2], by simp [go_sem, c0_2, c1_2, c2_2], by simp [go_sem, c0_2, c1_2, c2_2], by simp [go_sem, f0_2, f1_2, f2_2], by simp [go_sem, f0_2, f1_2, f2_2], by simp [go_sem, f0_2, f1_2, f2_2]⟩ | (simp [go_sem]; done)
  refine wpAnyH_take (i := 0) (oi := { dst := some 28, op := Go.Op.move (Go.Operand.tmp 6), type := 50, pos := "lex.go:53", after := #[], guard := none }) (v := ?_) rfl (by kernel_rfl) (by kernel_rfl) (by kernel_rfl) (fun _ _ _ h => h) (Or.inl ⟨by rfl, ?_⟩) (by assumption) ?_
  rotate_left 1
  · intro w_ hSw; (try dsimp only at hSw); go_simp; all_goals (with_reducible rfl)
  focus try simp only [Act.put, List.setIfInBounds_toArray, List.set_cons_zero, List.set_cons_succ]
  refine wpAnyH_take (i := 1) (oi := { dst := some 29, op := Go.Op.binOp Go.BinOp.neq 50 (Go.Operand.tmp 28) (Go.Operand.const Go.Value.nilIface) 50, type := 4, pos := "lex.go:53", after := #[{ on := 0, ground := Go.Ground.data }], guard := none }) (v := ?_) rfl (by kernel_rfl) (by kernel_rfl) (by kernel_rfl) (fun _ _ _ h => h) (Or.inl ⟨by rfl, ?_⟩) (by assumption) ?_
  rotate_left 1
  · intro w_ hSw; (try dsimp only at hSw); go_simp; all_goals (with_reducible rfl)
  focus try simp only [Act.put, List.setIfInBounds_toArray, List.set_cons_zero, List.set_cons_succ]
  refine wpAnyH_take (i := 2) (oi := { dst := some 30, op := Go.Op.move (Go.Operand.tmp 29), type := 4, pos := "lex.go:53", after := #[{ on := 1, ground := Go.Ground.data }], guard := none }) (v := ?_) rfl (by kernel_rfl) (by kernel_rfl) (by kernel_rfl) (fun _ _ _ h => h) (Or.inl ⟨by rfl, ?_⟩) (by assumption) ?_
  rotate_left 1
  · intro w_ hSw; (try dsimp only at hSw); go_simp; all_goals (with_reducible rfl)
  focus try simp only [Act.put, List.setIfInBounds_toArray, List.set_cons_zero, List.set_cons_succ]
  first | (refine wpAnyH_take (i := 3) (oi := { dst := some 31, op := Go.Op.move (Go.Operand.tmp 5), type := 2, pos := "lex.go:53", after := #[{ on := 2, ground := Go.Ground.guard }], guard := some (2, false) }) (v := ?_) rfl (by kernel_rfl) (by kernel_rfl) (by kernel_rfl) (fun _ _ _ h => h) (Or.inl ⟨by rfl, ?_⟩) (by assumption) ?_; rotate_left 1; focus (intro w_ hSw; (try dsimp only at hSw); go_simp; all_goals (with_reducible rfl); done)) | (refine wpAnyH_take (i := 3) (oi := { dst := some 31, op := Go.Op.move (Go.Operand.tmp 5), type := 2, pos := "lex.go:53", after := #[{ on := 2, ground := Go.Ground.guard }], guard := some (2, false) }) rfl (by kernel_rfl) (by kernel_rfl) (by kernel_rfl) (fun _ _ _ h => h) (Or.inr ⟨by rfl, rfl⟩) (by assumption) ?_)
  focus try simp only [Act.put, List.setIfInBounds_toArray, List.set_cons_zero, List.set_cons_succ]
  first | (refine wpAnyH_take (i := 5) (oi := { dst := some 33, op := Go.Op.fieldAddr 35 (Go.Operand.tmp 2) 1, type := 0, pos := "lex.go:53", after := #[{ on := 2, ground := Go.Ground.guard }], guard := some (2, false) }) (v := ?_) rfl (by kernel_rfl) (by kernel_rfl) (by kernel_rfl) (fun _ _ _ h => h) (Or.inl ⟨by rfl, ?_⟩) (by assumption) ?_; rotate_left 1; focus (intro w_ hSw; (try dsimp only at hSw); go_simp; all_goals (with_reducible rfl); done)) | (refine wpAnyH_take (i := 5) (oi := { dst := some 33, op := Go.Op.fieldAddr 35 (Go.Operand.tmp 2) 1, type := 0, pos := "lex.go:53", after := #[{ on := 2, ground := Go.Ground.guard }], guard := some (2, false) }) rfl (by kernel_rfl) (by kernel_rfl) (by kernel_rfl) (fun _ _ _ h => h) (Or.inr ⟨by rfl, rfl⟩) (by assumption) ?_)
  focus try simp only [Act.put, List.setIfInBounds_toArray, List.set_cons_zero, List.set_cons_succ]
  first | (refine wpAnyH_take (i := 6) (oi := { dst := some 34, op := Go.Op.load 9 (Go.Operand.tmp 33), type := 9, pos := "lex.go:53", after := #[{ on := 5, ground := Go.Ground.data }, { on := 2, ground := Go.Ground.guard }], guard := some (2, false) }) (v := ?_) rfl (by kernel_rfl) (by kernel_rfl) (by kernel_rfl) (fun _ _ _ h => h) (Or.inl ⟨by rfl, ?_⟩) (by assumption) ?_; rotate_left 1; focus (intro w_ hSw; (try dsimp only at hSw); go_simp; all_goals (with_reducible rfl); done)) | (refine wpAnyH_take (i := 6) (oi := { dst := some 34, op := Go.Op.load 9 (Go.Operand.tmp 33), type := 9, pos := "lex.go:53", after := #[{ on := 5, ground := Go.Ground.data }, { on := 2, ground := Go.Ground.guard }], guard := some (2, false) }) rfl (by kernel_rfl) (by kernel_rfl) (by kernel_rfl) (fun _ _ _ h => h) (Or.inr ⟨by rfl, rfl⟩) (by assumption) ?_)
  focus try simp only [Act.put, List.setIfInBounds_toArray, List.set_cons_zero, List.set_cons_succ]
  refine wpAnyH_ready (rs := [4]) (by kernel_rfl) (by simp) ?_
  refine AllReadyH.cons (o := { dst := some 32, op := Go.Op.call { callee := Go.Callee.value (Go.Operand.func 34), args := #[Go.Operand.tmp 31, Go.Operand.const (Go.Value.int Go.IntKind.i64 10)], argTypes := #[2, 3] }, type := 9, pos := "lex.go:53", after := #[{ on := 3, ground := Go.Ground.data }, { on := 2, ground := Go.Ground.chain }, { on := 2, ground := Go.Ground.guard }], guard := some (2, false) }) rfl (fun K hK => ?_) (AllReadyH.nil)
  focus go_simp
  refine hK.out _ _ ?_ (fun hHeld => ?_)
  · first | exact ⟨by simp [go_sem, c0_2, c1_2, c2_2], by simp [go_sem, c0_2, c1_2, c2_2], by simp [go_sem, c0_2, c1_2, c2_2], by simp [go_sem, f0_2, f1_2, f2_2], by simp [go_sem, f0_2, f1_2, f2_2], by simp [go_sem, f0_2, f1_2, f2_2]⟩ | (simp [go_sem]; done)
  focus clear hK K
  focus try simp only [Act.put, List.setIfInBounds_toArray, List.set_cons_zero, List.set_cons_succ]
  first | (refine wpAnyH_take (i := 7) (oi := { dst := some 35, op := Go.Op.binOp Go.BinOp.neq 9 (Go.Operand.tmp 32) (Go.Operand.tmp 34) 9, type := 4, pos := "lex.go:53", after := #[{ on := 4, ground := Go.Ground.data }, { on := 6, ground := Go.Ground.data }, { on := 2, ground := Go.Ground.guard }], guard := some (2, false) }) (v := ?_) rfl (by kernel_rfl) (by kernel_rfl) (by kernel_rfl) (fun _ _ _ h => h) (Or.inl ⟨by rfl, ?_⟩) (by assumption) ?_; rotate_left 1; focus (intro w_ hSw; (try dsimp only at hSw); go_simp; all_goals (with_reducible rfl); done)) | (refine wpAnyH_take (i := 7) (oi := { dst := some 35, op := Go.Op.binOp Go.BinOp.neq 9 (Go.Operand.tmp 32) (Go.Operand.tmp 34) 9, type := 4, pos := "lex.go:53", after := #[{ on := 4, ground := Go.Ground.data }, { on := 6, ground := Go.Ground.data }, { on := 2, ground := Go.Ground.guard }], guard := some (2, false) }) rfl (by kernel_rfl) (by kernel_rfl) (by kernel_rfl) (fun _ _ _ h => h) (Or.inr ⟨by rfl, rfl⟩) (by assumption) ?_)
  focus try simp only [Act.put, List.setIfInBounds_toArray, List.set_cons_zero, List.set_cons_succ]
  refine wpAnyH_take (i := 8) (oi := { dst := some 36, op := Go.Op.pick (Go.Operand.tmp 30) (Go.Operand.const (Go.Value.bool true)) (Go.Operand.tmp 35), type := 4, pos := "lex.go:53", after := #[{ on := 2, ground := Go.Ground.data }, { on := 7, ground := Go.Ground.data }], guard := none }) (v := ?_) rfl (by kernel_rfl) (by kernel_rfl) (by kernel_rfl) (fun _ _ _ h => h) (Or.inl ⟨by rfl, ?_⟩) (by assumption) ?_
  rotate_left 1
  · intro w_ hSw; (try dsimp only at hSw); go_simp; all_goals (with_reducible rfl)
  focus try simp only [Act.put, List.setIfInBounds_toArray, List.set_cons_zero, List.set_cons_succ]
  refine wpAnyH_done (by kernel_rfl) ?_ _
  rotate_left 1
  all_goals (
    have hq := hHeld
    obtain ⟨q0, q1, q2, g0, g1, g2⟩ := hq
    go_wp2
    exact piece_ret rfl rfl (box3_drew hHeld) (by repeat (first | with_reducible exact Below.refl _ _ | with_reducible assumption | with_reducible refine Below.alloc ?_ (by first | exact Nat.le_refl _ | (simp; done) | (simp; omega) | omega) _ | with_reducible refine Below.setCell ?_ (by first | exact Nat.le_refl _ | (simp; done) | (simp; omega) | omega) _ | with_reducible refine Below.drew ?_ | with_reducible refine bdrewN ?_ _)))

set_option maxRecDepth 100000 in
set_option maxHeartbeats 4000000 in
theorem piece_num_bad (s : ByteArray) (c : UInt8) (r0 tx : ByteArray) (dl : List UInt8) (w : World) (hG : LexGood w) (h0 : 0 < s.size) (hc : s[0] = c) (e40 : ((c.toNat : Int) == 40) = false) (e41 : ((c.toNat : Int) == 41) = false) (hz : s.size < 4294967281)
    (k1 : Hid (∀ W, Calls Tryd.prog 30 #[.string s, .string ⟨lettersL.toArray⟩] W fun e w' => e = .returned (.bool false) ∧ W = w'))
    (kT : Hid (∀ W, Calls Tryd.prog 32 #[.string s, .string ⟨#[45]⟩] W fun e w' => e = .returned (.string r0) ∧ w' = W))
    (k2 : Hid (∀ W, Calls Tryd.prog 31 #[.string r0, .string ⟨digitsL.toArray⟩] W fun e w' => e = .returned (.string ⟨dl.toArray⟩) ∧ Below W.heap.size W w'))
    (hr0 : r0.size ≤ s.size) (hdl : dl.length ≤ r0.size) (htx : s.extract 0 (s.size - r0.size + dl.length) = tx)
    (v : Int) (ft : ByteArray) (hne : ¬ ft.toList = tx.toList) (hne2 : (ft.toList == tx.toList) = false)
    (kp : Hid (∀ W, LexGood W → Calls Tryd.prog 33 #[.string tx, .int .i64 10, .int .i64 64] W fun e w' => e = .returned (.tuple #[.int .i64 v, .nilIface]) ∧ Below W.heap.size W w'))
    (kf : Hid (∀ W, LexGood W → Calls Tryd.prog 34 #[.int .i64 v, .int .i64 10] W fun e w' => e = .returned (.string ft) ∧ Below W.heap.size W w')) :
    Calls Tryd.prog 19 #[.string s] w fun e w' => e = .returned (PV 0 ⟨#[]⟩ false) ∧ Below w.heap.size w w' := by
  have hw1 : wrap64 (↑s.size - ↑r0.size) = ((s.size - r0.size : Nat) : Int) := by unfold wrap64; omega
  have hw2 : wrap64 (((s.size - r0.size : Nat) : Int) + ↑dl.length) = ((s.size - r0.size + dl.length : Nat) : Int) := by unfold wrap64; omega
  have hn : s.size - r0.size + dl.length ≤ s.size := by omega
  have htl : tx.size ≤ s.size := by rw [← htx, ByteArray.size_extract]; omega
  have HG := Lib.hid hG
  clear hG
  unfold lettersL at k1
  go_enter Tryd.func19, Tryd.ntmps19
  go_wp2_with fail
  refine (k1.out _).mono ?_
  rintro e w1 ⟨rfl, rfl⟩
  go_wp2_with fail
  refine (kT.out _).mono ?_
  rintro e w1 ⟨rfl, rfl⟩
  go_wp2_with fail
  refine (k2.out _).mono ?_
  rintro e w1 ⟨rfl, hb1⟩
  have hbw : Below w.heap.size w w1 := by refine Below.trans ?_ (hb1.mono (by first | exact Nat.le_refl _ | (simp; done) | (simp; omega) | omega)); exact (by repeat (first | exact Below.refl _ _ | with_reducible assumption | refine Below.alloc ?_ (by first | exact Nat.le_refl _ | (simp; done) | (simp; omega) | omega) _ | refine Below.setCell ?_ (by first | exact Nat.le_refl _ | (simp; done) | (simp; omega) | omega) _ | refine Below.drew ?_ | refine bdrewN ?_ _))
  have c0_1 : w1.cell? ⟨w.heap.size, 0, none⟩ = some (.int .i64 0) := cell_keeps hb1 (by simp [go_sem])
  have c1_1 : w1.cell? ⟨w.heap.size, 1, none⟩ = some (.string ⟨#[]⟩) := cell_keeps hb1 (by simp [go_sem])
  have c2_1 : w1.cell? ⟨w.heap.size, 2, none⟩ = some (.int .i64 0) := cell_keeps hb1 (by simp [go_sem])
  have f0_1 : w1.frozen? ⟨w.heap.size, 0, none⟩ = false := froz_keeps hb1 (by first | (simp; done) | (simp; omega)) (by simp [go_sem])
  have f1_1 : w1.frozen? ⟨w.heap.size, 1, none⟩ = false := froz_keeps hb1 (by first | (simp; done) | (simp; omega)) (by simp [go_sem])
  have f2_1 : w1.frozen? ⟨w.heap.size, 2, none⟩ = false := froz_keeps hb1 (by first | (simp; done) | (simp; omega)) (by simp [go_sem])
  have hz1 := cell_lt c0_1
  go_wp2_with fail
  refine (kp.out _ (LexGood.on HG.out (by repeat (first | with_reducible exact Below.refl _ _ | with_reducible assumption | with_reducible refine Below.alloc ?_ (by first | exact Nat.le_refl _ | (simp; done) | (simp; omega) | omega) _ | with_reducible refine Below.setCell ?_ (by first | exact Nat.le_refl _ | (simp; done) | (simp; omega) | omega) _ | with_reducible refine Below.drew ?_ | with_reducible refine bdrewN ?_ _)))).mono ?_
  rintro e w2 ⟨rfl, hb2⟩
  have hbw2 : Below w.heap.size w w2 := by refine Below.trans ?_ (hb2.mono (by simp; omega)); exact (by repeat (first | with_reducible exact Below.refl _ _ | with_reducible assumption | with_reducible refine Below.alloc ?_ (by first | exact Nat.le_refl _ | (simp; done) | (simp; omega) | omega) _ | with_reducible refine Below.setCell ?_ (by first | exact Nat.le_refl _ | (simp; done) | (simp; omega) | omega) _ | with_reducible refine Below.drew ?_ | with_reducible refine bdrewN ?_ _))
  have c0_2 : w2.cell? ⟨w.heap.size, 0, none⟩ = some (.int .i64 4) := cell_keeps hb2 (by simp [go_sem, c0_1, c1_1, c2_1])
  have c1_2 : w2.cell? ⟨w.heap.size, 1, none⟩ = some (.string tx) := cell_keeps hb2 (by simp [go_sem, c0_1, c1_1, c2_1])
  have c2_2 : w2.cell? ⟨w.heap.size, 2, none⟩ = some (.int .i64 0) := cell_keeps hb2 (by simp [go_sem, c0_1, c1_1, c2_1])
  have f0_2 : w2.frozen? ⟨w.heap.size, 0, none⟩ = false := froz_keeps hb2 (by first | (simp; done) | (simp; omega)) (by simp [go_sem, f0_1, f1_1, f2_1])
  have f1_2 : w2.frozen? ⟨w.heap.size, 1, none⟩ = false := froz_keeps hb2 (by first | (simp; done) | (simp; omega)) (by simp [go_sem, f0_1, f1_1, f2_1])
  have f2_2 : w2.frozen? ⟨w.heap.size, 2, none⟩ = false := froz_keeps hb2 (by first | (simp; done) | (simp; omega)) (by simp [go_sem, f0_1, f1_1, f2_1])
  have hz2 := cell_lt c0_2
  go_wp2
  refine wp_region_held_drew (S := (fun w' => w'.cell? ⟨w.heap.size, 0, none⟩ = some (.int .i64 4) ∧ w'.cell? ⟨w.heap.size, 1, none⟩ = some (.string tx) ∧ w'.cell? ⟨w.heap.size, 2, none⟩ = some (.int .i64 0) ∧ w'.frozen? ⟨w.heap.size, 0, none⟩ = false ∧ w'.frozen? ⟨w.heap.size, 1, none⟩ = false ∧ w'.frozen? ⟨w.heap.size, 2, none⟩ = false)) (by kernel_rfl) ?_ (fun hHeld => ?_)
  · first | exact ⟨by simp [go_sem, c0_2, c1_2, c2_2], by simp [go_sem, c0_2, c1_2, c2_2], by simp [go_sem, c0_2, c1_2, c2_2], by simp [go_sem, f0_2, f1_2, f2_2], by simp [go_sem, f0_2, f1_2, f2_2], by simp [go_sem, f0_2, f1_2, f2_2]⟩ | (simp [go_sem]; done)
  refine wpAnyH_take (i := 0) (oi := { dst := some 28, op := Go.Op.move (Go.Operand.tmp 6), type := 50, pos := "lex.go:53", after := #[], guard := none }) (v := ?_) rfl (by kernel_rfl) (by kernel_rfl) (by kernel_rfl) (fun _ _ _ h => h) (Or.inl ⟨by rfl, ?_⟩) (by assumption) ?_
  rotate_left 1
  · intro w_ hSw; (try dsimp only at hSw); go_simp; all_goals (with_reducible rfl)
  focus try simp only [Act.put, List.setIfInBounds_toArray, List.set_cons_zero, List.set_cons_succ]
  refine wpAnyH_take (i := 1) (oi := { dst := some 29, op := Go.Op.binOp Go.BinOp.neq 50 (Go.Operand.tmp 28) (Go.Operand.const Go.Value.nilIface) 50, type := 4, pos := "lex.go:53", after := #[{ on := 0, ground := Go.Ground.data }], guard := none }) (v := ?_) rfl (by kernel_rfl) (by kernel_rfl) (by kernel_rfl) (fun _ _ _ h => h) (Or.inl ⟨by rfl, ?_⟩) (by assumption) ?_
  rotate_left 1
  · intro w_ hSw; (try dsimp only at hSw); go_simp; all_goals (with_reducible rfl)
  focus try simp only [Act.put, List.setIfInBounds_toArray, List.set_cons_zero, List.set_cons_succ]
  refine wpAnyH_take (i := 2) (oi := { dst := some 30, op := Go.Op.move (Go.Operand.tmp 29), type := 4, pos := "lex.go:53", after := #[{ on := 1, ground := Go.Ground.data }], guard := none }) (v := ?_) rfl (by kernel_rfl) (by kernel_rfl) (by kernel_rfl) (fun _ _ _ h => h) (Or.inl ⟨by rfl, ?_⟩) (by assumption) ?_
  rotate_left 1
  · intro w_ hSw; (try dsimp only at hSw); go_simp; all_goals (with_reducible rfl)
  focus try simp only [Act.put, List.setIfInBounds_toArray, List.set_cons_zero, List.set_cons_succ]
  first | (refine wpAnyH_take (i := 3) (oi := { dst := some 31, op := Go.Op.move (Go.Operand.tmp 5), type := 2, pos := "lex.go:53", after := #[{ on := 2, ground := Go.Ground.guard }], guard := some (2, false) }) (v := ?_) rfl (by kernel_rfl) (by kernel_rfl) (by kernel_rfl) (fun _ _ _ h => h) (Or.inl ⟨by rfl, ?_⟩) (by assumption) ?_; rotate_left 1; focus (intro w_ hSw; (try dsimp only at hSw); go_simp; all_goals (with_reducible rfl); done)) | (refine wpAnyH_take (i := 3) (oi := { dst := some 31, op := Go.Op.move (Go.Operand.tmp 5), type := 2, pos := "lex.go:53", after := #[{ on := 2, ground := Go.Ground.guard }], guard := some (2, false) }) rfl (by kernel_rfl) (by kernel_rfl) (by kernel_rfl) (fun _ _ _ h => h) (Or.inr ⟨by rfl, rfl⟩) (by assumption) ?_)
  focus try simp only [Act.put, List.setIfInBounds_toArray, List.set_cons_zero, List.set_cons_succ]
  first | (refine wpAnyH_take (i := 5) (oi := { dst := some 33, op := Go.Op.fieldAddr 35 (Go.Operand.tmp 2) 1, type := 0, pos := "lex.go:53", after := #[{ on := 2, ground := Go.Ground.guard }], guard := some (2, false) }) (v := ?_) rfl (by kernel_rfl) (by kernel_rfl) (by kernel_rfl) (fun _ _ _ h => h) (Or.inl ⟨by rfl, ?_⟩) (by assumption) ?_; rotate_left 1; focus (intro w_ hSw; (try dsimp only at hSw); go_simp; all_goals (with_reducible rfl); done)) | (refine wpAnyH_take (i := 5) (oi := { dst := some 33, op := Go.Op.fieldAddr 35 (Go.Operand.tmp 2) 1, type := 0, pos := "lex.go:53", after := #[{ on := 2, ground := Go.Ground.guard }], guard := some (2, false) }) rfl (by kernel_rfl) (by kernel_rfl) (by kernel_rfl) (fun _ _ _ h => h) (Or.inr ⟨by rfl, rfl⟩) (by assumption) ?_)
  focus try simp only [Act.put, List.setIfInBounds_toArray, List.set_cons_zero, List.set_cons_succ]
  first | (refine wpAnyH_take (i := 6) (oi := { dst := some 34, op := Go.Op.load 9 (Go.Operand.tmp 33), type := 9, pos := "lex.go:53", after := #[{ on := 5, ground := Go.Ground.data }, { on := 2, ground := Go.Ground.guard }], guard := some (2, false) }) (v := ?_) rfl (by kernel_rfl) (by kernel_rfl) (by kernel_rfl) (fun _ _ _ h => h) (Or.inl ⟨by rfl, ?_⟩) (by assumption) ?_; rotate_left 1; focus (intro w_ hSw; (try dsimp only at hSw); go_simp; all_goals (with_reducible rfl); done)) | (refine wpAnyH_take (i := 6) (oi := { dst := some 34, op := Go.Op.load 9 (Go.Operand.tmp 33), type := 9, pos := "lex.go:53", after := #[{ on := 5, ground := Go.Ground.data }, { on := 2, ground := Go.Ground.guard }], guard := some (2, false) }) rfl (by kernel_rfl) (by kernel_rfl) (by kernel_rfl) (fun _ _ _ h => h) (Or.inr ⟨by rfl, rfl⟩) (by assumption) ?_)
  focus try simp only [Act.put, List.setIfInBounds_toArray, List.set_cons_zero, List.set_cons_succ]
  refine wpAnyH_ready (rs := [4]) (by kernel_rfl) (by simp) ?_
  refine AllReadyH.cons (o := { dst := some 32, op := Go.Op.call { callee := Go.Callee.value (Go.Operand.func 34), args := #[Go.Operand.tmp 31, Go.Operand.const (Go.Value.int Go.IntKind.i64 10)], argTypes := #[2, 3] }, type := 9, pos := "lex.go:53", after := #[{ on := 3, ground := Go.Ground.data }, { on := 2, ground := Go.Ground.chain }, { on := 2, ground := Go.Ground.guard }], guard := some (2, false) }) rfl (fun K hK => ?_) (AllReadyH.nil)
  focus go_simp
  focus (refine (kf.out _ (LexGood.on HG.out (by repeat (first | with_reducible exact Below.refl _ _ | with_reducible assumption | with_reducible refine Below.alloc ?_ (by first | exact Nat.le_refl _ | (simp; done) | (simp; omega) | omega) _ | with_reducible refine Below.setCell ?_ (by first | exact Nat.le_refl _ | (simp; done) | (simp; omega) | omega) _ | with_reducible refine Below.drew ?_ | with_reducible refine bdrewN ?_ _)))).mono ?_; rintro e w3 ⟨rfl, hb3⟩)
  focus try simp only []
  refine hK.out _ _ ?_ (fun hHeld => ?_)
  · (have hq := hHeld; (try dsimp only at hq); obtain ⟨q0, q1, q2, g0, g1, g2⟩ := hq; exact ⟨cell_keeps hb3 q0, cell_keeps hb3 q1, cell_keeps hb3 q2, froz_keeps hb3 (cell_lt q0) g0, froz_keeps hb3 (cell_lt q0) g1, froz_keeps hb3 (cell_lt q0) g2⟩)
  focus clear hK K
  focus try simp only [Act.put, List.setIfInBounds_toArray, List.set_cons_zero, List.set_cons_succ]
  first | (refine wpAnyH_take (i := 7) (oi := { dst := some 35, op := Go.Op.binOp Go.BinOp.neq 9 (Go.Operand.tmp 32) (Go.Operand.tmp 34) 9, type := 4, pos := "lex.go:53", after := #[{ on := 4, ground := Go.Ground.data }, { on := 6, ground := Go.Ground.data }, { on := 2, ground := Go.Ground.guard }], guard := some (2, false) }) (v := ?_) rfl (by kernel_rfl) (by kernel_rfl) (by kernel_rfl) (fun _ _ _ h => h) (Or.inl ⟨by rfl, ?_⟩) (by assumption) ?_; rotate_left 1; focus (intro w_ hSw; (try dsimp only at hSw); go_simp; all_goals (with_reducible rfl); done)) | (refine wpAnyH_take (i := 7) (oi := { dst := some 35, op := Go.Op.binOp Go.BinOp.neq 9 (Go.Operand.tmp 32) (Go.Operand.tmp 34) 9, type := 4, pos := "lex.go:53", after := #[{ on := 4, ground := Go.Ground.data }, { on := 6, ground := Go.Ground.data }, { on := 2, ground := Go.Ground.guard }], guard := some (2, false) }) rfl (by kernel_rfl) (by kernel_rfl) (by kernel_rfl) (fun _ _ _ h => h) (Or.inr ⟨by rfl, rfl⟩) (by assumption) ?_)
  focus try simp only [Act.put, List.setIfInBounds_toArray, List.set_cons_zero, List.set_cons_succ]
  refine wpAnyH_take (i := 8) (oi := { dst := some 36, op := Go.Op.pick (Go.Operand.tmp 30) (Go.Operand.const (Go.Value.bool true)) (Go.Operand.tmp 35), type := 4, pos := "lex.go:53", after := #[{ on := 2, ground := Go.Ground.data }, { on := 7, ground := Go.Ground.data }], guard := none }) (v := ?_) rfl (by kernel_rfl) (by kernel_rfl) (by kernel_rfl) (fun _ _ _ h => h) (Or.inl ⟨by rfl, ?_⟩) (by assumption) ?_
  rotate_left 1
  · intro w_ hSw; (try dsimp only at hSw); go_simp; all_goals (with_reducible rfl)
  focus try simp only [Act.put, List.setIfInBounds_toArray, List.set_cons_zero, List.set_cons_succ]
  refine wpAnyH_done (by kernel_rfl) ?_ _
  rotate_left 1
  all_goals (
    have hbw3 : Below w.heap.size w w3 := by refine Below.trans ?_ (hb3.mono (by simp; omega)); exact (by repeat (first | with_reducible exact Below.refl _ _ | with_reducible assumption | with_reducible refine Below.alloc ?_ (by first | exact Nat.le_refl _ | (simp; done) | (simp; omega) | omega) _ | with_reducible refine Below.setCell ?_ (by first | exact Nat.le_refl _ | (simp; done) | (simp; omega) | omega) _ | with_reducible refine Below.drew ?_ | with_reducible refine bdrewN ?_ _))
    have hq := hHeld
    obtain ⟨q0, q1, q2, g0, g1, g2⟩ := hq
    go_wp2
    exact piece_ret rfl rfl (box3_store hHeld) (by repeat (first | with_reducible exact Below.refl _ _ | with_reducible assumption | with_reducible refine Below.alloc ?_ (by first | exact Nat.le_refl _ | (simp; done) | (simp; omega) | omega) _ | with_reducible refine Below.setCell ?_ (by first | exact Nat.le_refl _ | (simp; done) | (simp; omega) | omega) _ | with_reducible refine Below.drew ?_ | with_reducible refine bdrewN ?_ _)))

set_option maxRecDepth 100000 in
set_option maxHeartbeats 4000000 in
theorem piece_num_ok (s : ByteArray) (c : UInt8) (r0 tx : ByteArray) (dl : List UInt8) (w : World) (hG : LexGood w) (h0 : 0 < s.size) (hc : s[0] = c) (e40 : ((c.toNat : Int) == 40) = false) (e41 : ((c.toNat : Int) == 41) = false) (hz : s.size < 4294967281)
    (k1 : Hid (∀ W, Calls Tryd.prog 30 #[.string s, .string ⟨lettersL.toArray⟩] W fun e w' => e = .returned (.bool false) ∧ W = w'))
    (kT : Hid (∀ W, Calls Tryd.prog 32 #[.string s, .string ⟨#[45]⟩] W fun e w' => e = .returned (.string r0) ∧ w' = W))
    (k2 : Hid (∀ W, Calls Tryd.prog 31 #[.string r0, .string ⟨digitsL.toArray⟩] W fun e w' => e = .returned (.string ⟨dl.toArray⟩) ∧ Below W.heap.size W w'))
    (hr0 : r0.size ≤ s.size) (hdl : dl.length ≤ r0.size) (htx : s.extract 0 (s.size - r0.size + dl.length) = tx)
    (v : Int) (ft : ByteArray) (hft : tx = ft) (rl : List UInt8) (hrest : (s.extract tx.size s.size).data.toList = rl)
    (kp : Hid (∀ W, LexGood W → Calls Tryd.prog 33 #[.string tx, .int .i64 10, .int .i64 64] W fun e w' => e = .returned (.tuple #[.int .i64 v, .nilIface]) ∧ Below W.heap.size W w'))
    (kf : Hid (∀ W, LexGood W → Calls Tryd.prog 34 #[.int .i64 v, .int .i64 10] W fun e w' => e = .returned (.string ft) ∧ Below W.heap.size W w')) :
    Calls Tryd.prog 19 #[.string s] w fun e w' => e = .returned (PV 4 tx (endOK rl)) ∧ Below w.heap.size w w' := by
  have hw1 : wrap64 (↑s.size - ↑r0.size) = ((s.size - r0.size : Nat) : Int) := by unfold wrap64; omega
  have hw2 : wrap64 (((s.size - r0.size : Nat) : Int) + ↑dl.length) = ((s.size - r0.size + dl.length : Nat) : Int) := by unfold wrap64; omega
  have hn : s.size - r0.size + dl.length ≤ s.size := by omega
  have htl : tx.size ≤ s.size := by rw [← htx, ByteArray.size_extract]; omega
  subst hft
  have hrl : (s.extract tx.size s.size).toList = rl := by rw [ByteArray.toList_eq]; exact hrest
  have k3 := Lib.hid (fun W => is_any (s.extract tx.size s.size) ⟨behindL.toArray⟩ W)
  rw [hrest] at k3
  clear hrest
  have HG := Lib.hid hG
  clear hG
  unfold lettersL at k1
  go_enter Tryd.func19, Tryd.ntmps19
  go_wp2_with fail
  refine (k1.out _).mono ?_
  rintro e w1 ⟨rfl, rfl⟩
  go_wp2_with fail
  refine (kT.out _).mono ?_
  rintro e w1 ⟨rfl, rfl⟩
  go_wp2_with fail
  refine (k2.out _).mono ?_
  rintro e w1 ⟨rfl, hb1⟩
  have hbw : Below w.heap.size w w1 := by refine Below.trans ?_ (hb1.mono (by first | exact Nat.le_refl _ | (simp; done) | (simp; omega) | omega)); exact (by repeat (first | exact Below.refl _ _ | with_reducible assumption | refine Below.alloc ?_ (by first | exact Nat.le_refl _ | (simp; done) | (simp; omega) | omega) _ | refine Below.setCell ?_ (by first | exact Nat.le_refl _ | (simp; done) | (simp; omega) | omega) _ | refine Below.drew ?_ | refine bdrewN ?_ _))
  have c0_1 : w1.cell? ⟨w.heap.size, 0, none⟩ = some (.int .i64 0) := cell_keeps hb1 (by simp [go_sem])
  have c1_1 : w1.cell? ⟨w.heap.size, 1, none⟩ = some (.string ⟨#[]⟩) := cell_keeps hb1 (by simp [go_sem])
  have c2_1 : w1.cell? ⟨w.heap.size, 2, none⟩ = some (.int .i64 0) := cell_keeps hb1 (by simp [go_sem])
  have f0_1 : w1.frozen? ⟨w.heap.size, 0, none⟩ = false := froz_keeps hb1 (by first | (simp; done) | (simp; omega)) (by simp [go_sem])
  have f1_1 : w1.frozen? ⟨w.heap.size, 1, none⟩ = false := froz_keeps hb1 (by first | (simp; done) | (simp; omega)) (by simp [go_sem])
  have f2_1 : w1.frozen? ⟨w.heap.size, 2, none⟩ = false := froz_keeps hb1 (by first | (simp; done) | (simp; omega)) (by simp [go_sem])
  have hz1 := cell_lt c0_1
  go_wp2_with fail
  refine (kp.out _ (LexGood.on HG.out (by repeat (first | with_reducible exact Below.refl _ _ | with_reducible assumption | with_reducible refine Below.alloc ?_ (by first | exact Nat.le_refl _ | (simp; done) | (simp; omega) | omega) _ | with_reducible refine Below.setCell ?_ (by first | exact Nat.le_refl _ | (simp; done) | (simp; omega) | omega) _ | with_reducible refine Below.drew ?_ | with_reducible refine bdrewN ?_ _)))).mono ?_
  rintro e w2 ⟨rfl, hb2⟩
  have hbw2 : Below w.heap.size w w2 := by refine Below.trans ?_ (hb2.mono (by simp; omega)); exact (by repeat (first | with_reducible exact Below.refl _ _ | with_reducible assumption | with_reducible refine Below.alloc ?_ (by first | exact Nat.le_refl _ | (simp; done) | (simp; omega) | omega) _ | with_reducible refine Below.setCell ?_ (by first | exact Nat.le_refl _ | (simp; done) | (simp; omega) | omega) _ | with_reducible refine Below.drew ?_ | with_reducible refine bdrewN ?_ _))
  have c0_2 : w2.cell? ⟨w.heap.size, 0, none⟩ = some (.int .i64 4) := cell_keeps hb2 (by simp [go_sem, c0_1, c1_1, c2_1])
  have c1_2 : w2.cell? ⟨w.heap.size, 1, none⟩ = some (.string tx) := cell_keeps hb2 (by simp [go_sem, c0_1, c1_1, c2_1])
  have c2_2 : w2.cell? ⟨w.heap.size, 2, none⟩ = some (.int .i64 0) := cell_keeps hb2 (by simp [go_sem, c0_1, c1_1, c2_1])
  have f0_2 : w2.frozen? ⟨w.heap.size, 0, none⟩ = false := froz_keeps hb2 (by first | (simp; done) | (simp; omega)) (by simp [go_sem, f0_1, f1_1, f2_1])
  have f1_2 : w2.frozen? ⟨w.heap.size, 1, none⟩ = false := froz_keeps hb2 (by first | (simp; done) | (simp; omega)) (by simp [go_sem, f0_1, f1_1, f2_1])
  have f2_2 : w2.frozen? ⟨w.heap.size, 2, none⟩ = false := froz_keeps hb2 (by first | (simp; done) | (simp; omega)) (by simp [go_sem, f0_1, f1_1, f2_1])
  have hz2 := cell_lt c0_2
  go_wp2
  refine wp_region_held_drew (S := (fun w' => w'.cell? ⟨w.heap.size, 0, none⟩ = some (.int .i64 4) ∧ w'.cell? ⟨w.heap.size, 1, none⟩ = some (.string tx) ∧ w'.cell? ⟨w.heap.size, 2, none⟩ = some (.int .i64 0) ∧ w'.frozen? ⟨w.heap.size, 0, none⟩ = false ∧ w'.frozen? ⟨w.heap.size, 1, none⟩ = false ∧ w'.frozen? ⟨w.heap.size, 2, none⟩ = false)) (by kernel_rfl) ?_ (fun hHeld => ?_)
  · first | exact ⟨by simp [go_sem, c0_2, c1_2, c2_2], by simp [go_sem, c0_2, c1_2, c2_2], by simp [go_sem, c0_2, c1_2, c2_2], by simp [go_sem, f0_2, f1_2, f2_2], by simp [go_sem, f0_2, f1_2, f2_2], by simp [go_sem, f0_2, f1_2, f2_2]⟩ | (simp [go_sem]; done)
  refine wpAnyH_take (i := 0) (oi := { dst := some 28, op := Go.Op.move (Go.Operand.tmp 6), type := 50, pos := "lex.go:53", after := #[], guard := none }) (v := ?_) rfl (by kernel_rfl) (by kernel_rfl) (by kernel_rfl) (fun _ _ _ h => h) (Or.inl ⟨by rfl, ?_⟩) (by assumption) ?_
  rotate_left 1
  · intro w_ hSw; (try dsimp only at hSw); go_simp; all_goals (with_reducible rfl)
  focus try simp only [Act.put, List.setIfInBounds_toArray, List.set_cons_zero, List.set_cons_succ]
  refine wpAnyH_take (i := 1) (oi := { dst := some 29, op := Go.Op.binOp Go.BinOp.neq 50 (Go.Operand.tmp 28) (Go.Operand.const Go.Value.nilIface) 50, type := 4, pos := "lex.go:53", after := #[{ on := 0, ground := Go.Ground.data }], guard := none }) (v := ?_) rfl (by kernel_rfl) (by kernel_rfl) (by kernel_rfl) (fun _ _ _ h => h) (Or.inl ⟨by rfl, ?_⟩) (by assumption) ?_
  rotate_left 1
  · intro w_ hSw; (try dsimp only at hSw); go_simp; all_goals (with_reducible rfl)
  focus try simp only [Act.put, List.setIfInBounds_toArray, List.set_cons_zero, List.set_cons_succ]
  refine wpAnyH_take (i := 2) (oi := { dst := some 30, op := Go.Op.move (Go.Operand.tmp 29), type := 4, pos := "lex.go:53", after := #[{ on := 1, ground := Go.Ground.data }], guard := none }) (v := ?_) rfl (by kernel_rfl) (by kernel_rfl) (by kernel_rfl) (fun _ _ _ h => h) (Or.inl ⟨by rfl, ?_⟩) (by assumption) ?_
  rotate_left 1
  · intro w_ hSw; (try dsimp only at hSw); go_simp; all_goals (with_reducible rfl)
  focus try simp only [Act.put, List.setIfInBounds_toArray, List.set_cons_zero, List.set_cons_succ]
  first | (refine wpAnyH_take (i := 3) (oi := { dst := some 31, op := Go.Op.move (Go.Operand.tmp 5), type := 2, pos := "lex.go:53", after := #[{ on := 2, ground := Go.Ground.guard }], guard := some (2, false) }) (v := ?_) rfl (by kernel_rfl) (by kernel_rfl) (by kernel_rfl) (fun _ _ _ h => h) (Or.inl ⟨by rfl, ?_⟩) (by assumption) ?_; rotate_left 1; focus (intro w_ hSw; (try dsimp only at hSw); go_simp; all_goals (with_reducible rfl); done)) | (refine wpAnyH_take (i := 3) (oi := { dst := some 31, op := Go.Op.move (Go.Operand.tmp 5), type := 2, pos := "lex.go:53", after := #[{ on := 2, ground := Go.Ground.guard }], guard := some (2, false) }) rfl (by kernel_rfl) (by kernel_rfl) (by kernel_rfl) (fun _ _ _ h => h) (Or.inr ⟨by rfl, rfl⟩) (by assumption) ?_)
  focus try simp only [Act.put, List.setIfInBounds_toArray, List.set_cons_zero, List.set_cons_succ]
  first | (refine wpAnyH_take (i := 5) (oi := { dst := some 33, op := Go.Op.fieldAddr 35 (Go.Operand.tmp 2) 1, type := 0, pos := "lex.go:53", after := #[{ on := 2, ground := Go.Ground.guard }], guard := some (2, false) }) (v := ?_) rfl (by kernel_rfl) (by kernel_rfl) (by kernel_rfl) (fun _ _ _ h => h) (Or.inl ⟨by rfl, ?_⟩) (by assumption) ?_; rotate_left 1; focus (intro w_ hSw; (try dsimp only at hSw); go_simp; all_goals (with_reducible rfl); done)) | (refine wpAnyH_take (i := 5) (oi := { dst := some 33, op := Go.Op.fieldAddr 35 (Go.Operand.tmp 2) 1, type := 0, pos := "lex.go:53", after := #[{ on := 2, ground := Go.Ground.guard }], guard := some (2, false) }) rfl (by kernel_rfl) (by kernel_rfl) (by kernel_rfl) (fun _ _ _ h => h) (Or.inr ⟨by rfl, rfl⟩) (by assumption) ?_)
  focus try simp only [Act.put, List.setIfInBounds_toArray, List.set_cons_zero, List.set_cons_succ]
  first | (refine wpAnyH_take (i := 6) (oi := { dst := some 34, op := Go.Op.load 9 (Go.Operand.tmp 33), type := 9, pos := "lex.go:53", after := #[{ on := 5, ground := Go.Ground.data }, { on := 2, ground := Go.Ground.guard }], guard := some (2, false) }) (v := ?_) rfl (by kernel_rfl) (by kernel_rfl) (by kernel_rfl) (fun _ _ _ h => h) (Or.inl ⟨by rfl, ?_⟩) (by assumption) ?_; rotate_left 1; focus (intro w_ hSw; (try dsimp only at hSw); go_simp; all_goals (with_reducible rfl); done)) | (refine wpAnyH_take (i := 6) (oi := { dst := some 34, op := Go.Op.load 9 (Go.Operand.tmp 33), type := 9, pos := "lex.go:53", after := #[{ on := 5, ground := Go.Ground.data }, { on := 2, ground := Go.Ground.guard }], guard := some (2, false) }) rfl (by kernel_rfl) (by kernel_rfl) (by kernel_rfl) (fun _ _ _ h => h) (Or.inr ⟨by rfl, rfl⟩) (by assumption) ?_)
  focus try simp only [Act.put, List.setIfInBounds_toArray, List.set_cons_zero, List.set_cons_succ]
  refine wpAnyH_ready (rs := [4]) (by kernel_rfl) (by simp) ?_
  refine AllReadyH.cons (o := { dst := some 32, op := Go.Op.call { callee := Go.Callee.value (Go.Operand.func 34), args := #[Go.Operand.tmp 31, Go.Operand.const (Go.Value.int Go.IntKind.i64 10)], argTypes := #[2, 3] }, type := 9, pos := "lex.go:53", after := #[{ on := 3, ground := Go.Ground.data }, { on := 2, ground := Go.Ground.chain }, { on := 2, ground := Go.Ground.guard }], guard := some (2, false) }) rfl (fun K hK => ?_) (AllReadyH.nil)
  focus go_simp
  focus (refine (kf.out _ (LexGood.on HG.out (by repeat (first | with_reducible exact Below.refl _ _ | with_reducible assumption | with_reducible refine Below.alloc ?_ (by first | exact Nat.le_refl _ | (simp; done) | (simp; omega) | omega) _ | with_reducible refine Below.setCell ?_ (by first | exact Nat.le_refl _ | (simp; done) | (simp; omega) | omega) _ | with_reducible refine Below.drew ?_ | with_reducible refine bdrewN ?_ _)))).mono ?_; rintro e w3 ⟨rfl, hb3⟩)
  focus try simp only []
  refine hK.out _ _ ?_ (fun hHeld => ?_)
  · (have hq := hHeld; (try dsimp only at hq); obtain ⟨q0, q1, q2, g0, g1, g2⟩ := hq; exact ⟨cell_keeps hb3 q0, cell_keeps hb3 q1, cell_keeps hb3 q2, froz_keeps hb3 (cell_lt q0) g0, froz_keeps hb3 (cell_lt q0) g1, froz_keeps hb3 (cell_lt q0) g2⟩)
  focus clear hK K
  focus try simp only [Act.put, List.setIfInBounds_toArray, List.set_cons_zero, List.set_cons_succ]
  first | (refine wpAnyH_take (i := 7) (oi := { dst := some 35, op := Go.Op.binOp Go.BinOp.neq 9 (Go.Operand.tmp 32) (Go.Operand.tmp 34) 9, type := 4, pos := "lex.go:53", after := #[{ on := 4, ground := Go.Ground.data }, { on := 6, ground := Go.Ground.data }, { on := 2, ground := Go.Ground.guard }], guard := some (2, false) }) (v := ?_) rfl (by kernel_rfl) (by kernel_rfl) (by kernel_rfl) (fun _ _ _ h => h) (Or.inl ⟨by rfl, ?_⟩) (by assumption) ?_; rotate_left 1; focus (intro w_ hSw; (try dsimp only at hSw); go_simp; all_goals (with_reducible rfl); done)) | (refine wpAnyH_take (i := 7) (oi := { dst := some 35, op := Go.Op.binOp Go.BinOp.neq 9 (Go.Operand.tmp 32) (Go.Operand.tmp 34) 9, type := 4, pos := "lex.go:53", after := #[{ on := 4, ground := Go.Ground.data }, { on := 6, ground := Go.Ground.data }, { on := 2, ground := Go.Ground.guard }], guard := some (2, false) }) rfl (by kernel_rfl) (by kernel_rfl) (by kernel_rfl) (fun _ _ _ h => h) (Or.inr ⟨by rfl, rfl⟩) (by assumption) ?_)
  focus try simp only [Act.put, List.setIfInBounds_toArray, List.set_cons_zero, List.set_cons_succ]
  refine wpAnyH_take (i := 8) (oi := { dst := some 36, op := Go.Op.pick (Go.Operand.tmp 30) (Go.Operand.const (Go.Value.bool true)) (Go.Operand.tmp 35), type := 4, pos := "lex.go:53", after := #[{ on := 2, ground := Go.Ground.data }, { on := 7, ground := Go.Ground.data }], guard := none }) (v := ?_) rfl (by kernel_rfl) (by kernel_rfl) (by kernel_rfl) (fun _ _ _ h => h) (Or.inl ⟨by rfl, ?_⟩) (by assumption) ?_
  rotate_left 1
  · intro w_ hSw; (try dsimp only at hSw); go_simp; all_goals (with_reducible rfl)
  focus try simp only [Act.put, List.setIfInBounds_toArray, List.set_cons_zero, List.set_cons_succ]
  refine wpAnyH_done (by kernel_rfl) ?_ _
  rotate_left 1
  all_goals (
    have hbw3 : Below w.heap.size w w3 := by refine Below.trans ?_ (hb3.mono (by simp; omega)); exact (by repeat (first | with_reducible exact Below.refl _ _ | with_reducible assumption | with_reducible refine Below.alloc ?_ (by first | exact Nat.le_refl _ | (simp; done) | (simp; omega) | omega) _ | with_reducible refine Below.setCell ?_ (by first | exact Nat.le_refl _ | (simp; done) | (simp; omega) | omega) _ | with_reducible refine Below.drew ?_ | with_reducible refine bdrewN ?_ _))
    have hq := hHeld
    clear hHeld
    obtain ⟨c0_3, c1_3, c2_3, f0_3, f1_3, f2_3⟩ := hq
    have hz3 := cell_lt c0_3
    go_wp2)
  by_cases hr : rl = []
  · subst hr
    clear k3
    refine wp_region_held_drew (S := (fun w' => w'.cell? ⟨w.heap.size, 0, none⟩ = some (.int .i64 4) ∧ w'.cell? ⟨w.heap.size, 1, none⟩ = some (.string tx) ∧ w'.cell? ⟨w.heap.size, 2, none⟩ = some (.int .i64 0) ∧ w'.frozen? ⟨w.heap.size, 0, none⟩ = false ∧ w'.frozen? ⟨w.heap.size, 1, none⟩ = false ∧ w'.frozen? ⟨w.heap.size, 2, none⟩ = false)) (by kernel_rfl) ?_ (fun hHeld => ?_)
    · first | exact ⟨by simp [go_sem, c0_3, c1_3, c2_3], by simp [go_sem, c0_3, c1_3, c2_3], by simp [go_sem, c0_3, c1_3, c2_3], by simp [go_sem, f0_3, f1_3, f2_3], by simp [go_sem, f0_3, f1_3, f2_3], by simp [go_sem, f0_3, f1_3, f2_3]⟩ | (simp [go_sem]; done)
    refine wpAnyH_take (i := 0) (oi := { dst := some 59, op := Go.Op.load 35 (Go.Operand.tmp 2), type := 35, pos := "lex.go:58", after := #[], guard := none }) (v := ?_) rfl (by kernel_rfl) (by kernel_rfl) (by kernel_rfl) (fun _ _ _ h => h) (Or.inl ⟨by rfl, ?_⟩) (by assumption) ?_
    rotate_left 1
    · intro w_ hSw; (try dsimp only at hSw); go_simp; all_goals (with_reducible rfl)
    focus try simp only [Act.put, List.setIfInBounds_toArray, List.set_cons_zero, List.set_cons_succ]
    refine wpAnyH_take (i := 1) (oi := { dst := some 60, op := Go.Op.move (Go.Operand.tmp 7), type := 9, pos := "lex.go:58", after := #[], guard := none }) (v := ?_) rfl (by kernel_rfl) (by kernel_rfl) (by kernel_rfl) (fun _ _ _ h => h) (Or.inl ⟨by rfl, ?_⟩) (by assumption) ?_
    rotate_left 1
    · intro w_ hSw; (try dsimp only at hSw); go_simp; all_goals (with_reducible rfl)
    focus try simp only [Act.put, List.setIfInBounds_toArray, List.set_cons_zero, List.set_cons_succ]
    refine wpAnyH_take (i := 2) (oi := { dst := some 61, op := Go.Op.binOp Go.BinOp.eql 9 (Go.Operand.tmp 60) (Go.Operand.const (Go.Value.string { data := #[] })) 9, type := 4, pos := "lex.go:58", after := #[{ on := 1, ground := Go.Ground.data }], guard := none }) (v := ?_) rfl (by kernel_rfl) (by kernel_rfl) (by kernel_rfl) (fun _ _ _ h => h) (Or.inl ⟨by rfl, ?_⟩) (by assumption) ?_
    rotate_left 1
    · intro w_ hSw; (try dsimp only at hSw); go_simp; all_goals (with_reducible rfl)
    focus try simp only [Act.put, List.setIfInBounds_toArray, List.set_cons_zero, List.set_cons_succ]
    refine wpAnyH_take (i := 3) (oi := { dst := some 62, op := Go.Op.move (Go.Operand.tmp 61), type := 4, pos := "lex.go:58", after := #[{ on := 2, ground := Go.Ground.data }], guard := none }) (v := ?_) rfl (by kernel_rfl) (by kernel_rfl) (by kernel_rfl) (fun _ _ _ h => h) (Or.inl ⟨by rfl, ?_⟩) (by assumption) ?_
    rotate_left 1
    · intro w_ hSw; (try dsimp only at hSw); go_simp; all_goals (with_reducible rfl)
    focus try simp only [Act.put, List.setIfInBounds_toArray, List.set_cons_zero, List.set_cons_succ]
    first | (refine wpAnyH_take (i := 4) (oi := { dst := some 63, op := Go.Op.move (Go.Operand.tmp 7), type := 9, pos := "lex.go:58", after := #[{ on := 3, ground := Go.Ground.guard }], guard := some (3, false) }) (v := ?_) rfl (by kernel_rfl) (by kernel_rfl) (by kernel_rfl) (fun _ _ _ h => h) (Or.inl ⟨by rfl, ?_⟩) (by assumption) ?_; rotate_left 1; focus (intro w_ hSw; (try dsimp only at hSw); go_simp; all_goals (with_reducible rfl); done)) | (refine wpAnyH_take (i := 4) (oi := { dst := some 63, op := Go.Op.move (Go.Operand.tmp 7), type := 9, pos := "lex.go:58", after := #[{ on := 3, ground := Go.Ground.guard }], guard := some (3, false) }) rfl (by kernel_rfl) (by kernel_rfl) (by kernel_rfl) (fun _ _ _ h => h) (Or.inr ⟨by rfl, rfl⟩) (by assumption) ?_)
    focus try simp only [Act.put, List.setIfInBounds_toArray, List.set_cons_zero, List.set_cons_succ]
    refine wpAnyH_ready (rs := [5]) (by kernel_rfl) (by simp) ?_
    refine AllReadyH.cons (o := { dst := some 64, op := Go.Op.call { callee := Go.Callee.value (Go.Operand.func 30), args := #[Go.Operand.tmp 63, Go.Operand.const (Go.Value.string { data := #[9, 10, 13, 32, 59, 40, 41] })], argTypes := #[9, 9] }, type := 4, pos := "lex.go:58", after := #[{ on := 4, ground := Go.Ground.data }, { on := 3, ground := Go.Ground.chain }, { on := 3, ground := Go.Ground.guard }], guard := some (3, false) }) rfl (fun K hK => ?_) (AllReadyH.nil)
    focus go_simp
    refine hK.out _ _ ?_ (fun hHeld => ?_)
    · first | exact ⟨by simp [go_sem, c0_3, c1_3, c2_3], by simp [go_sem, c0_3, c1_3, c2_3], by simp [go_sem, c0_3, c1_3, c2_3], by simp [go_sem, f0_3, f1_3, f2_3], by simp [go_sem, f0_3, f1_3, f2_3], by simp [go_sem, f0_3, f1_3, f2_3]⟩ | (simp [go_sem]; done)
    focus clear hK K
    focus try simp only [Act.put, List.setIfInBounds_toArray, List.set_cons_zero, List.set_cons_succ]
    refine wpAnyH_take (i := 6) (oi := { dst := some 65, op := Go.Op.pick (Go.Operand.tmp 62) (Go.Operand.const (Go.Value.bool true)) (Go.Operand.tmp 64), type := 4, pos := "lex.go:58", after := #[{ on := 3, ground := Go.Ground.data }, { on := 5, ground := Go.Ground.data }, { on := 7, ground := Go.Ground.gcOnly Go.Departure.lateStores }], guard := none }) (v := ?_) rfl (by kernel_rfl) (by kernel_rfl) (by kernel_rfl) (fun _ _ _ h => h) (Or.inl ⟨by rfl, ?_⟩) (by assumption) ?_
    rotate_left 1
    · intro w_ hSw; (try dsimp only at hSw); go_simp; all_goals (with_reducible rfl)
    focus try simp only [Act.put, List.setIfInBounds_toArray, List.set_cons_zero, List.set_cons_succ]
    refine wpAnyH_ready (rs := [7]) (by kernel_rfl) (by simp) ?_
    refine AllReadyH.cons (o := { dst := none, op := Go.Op.store 35 (Go.Operand.tmp 2) (Go.Operand.tmp 59), type := 0, pos := "lex.go:58", after := #[{ on := 0, ground := Go.Ground.data }, { on := 5, ground := Go.Ground.chain }, { on := 0, ground := Go.Ground.phase }, { on := 1, ground := Go.Ground.textOnly Go.Departure.lateStores }, { on := 2, ground := Go.Ground.textOnly Go.Departure.lateStores }, { on := 3, ground := Go.Ground.textOnly Go.Departure.lateStores }, { on := 4, ground := Go.Ground.textOnly Go.Departure.lateStores }, { on := 5, ground := Go.Ground.textOnly Go.Departure.lateStoresUnsure }, { on := 6, ground := Go.Ground.textOnly Go.Departure.lateStores }], guard := none }) rfl (fun K hK => ?_) (AllReadyH.nil)
    focus go_simp
    refine hK.out _ _ ?_ (fun hHeld => ?_)
    · exact box3_drew hHeld
    focus clear hK K
    focus try simp only [Act.put, List.setIfInBounds_toArray, List.set_cons_zero, List.set_cons_succ]
    refine wpAnyH_take (i := 8) (oi := { dst := some 3, op := Go.Op.assign (Go.Operand.tmp 65), type := 4, pos := "lex.go:58", after := #[{ on := 6, ground := Go.Ground.data }, { on := 7, ground := Go.Ground.chain }, { on := 0, ground := Go.Ground.phase }, { on := 1, ground := Go.Ground.phase }, { on := 2, ground := Go.Ground.phase }, { on := 3, ground := Go.Ground.phase }, { on := 4, ground := Go.Ground.phase }, { on := 5, ground := Go.Ground.phase }, { on := 6, ground := Go.Ground.phase }, { on := 7, ground := Go.Ground.phase }], guard := none }) (v := ?_) rfl (by kernel_rfl) (by kernel_rfl) (by kernel_rfl) (fun _ _ _ h => h) (Or.inl ⟨by rfl, ?_⟩) (by assumption) ?_
    rotate_left 1
    · intro w_ hSw; (try dsimp only at hSw); go_simp; all_goals (with_reducible rfl)
    focus try simp only [Act.put, List.setIfInBounds_toArray, List.set_cons_zero, List.set_cons_succ]
    refine wpAnyH_done (by kernel_rfl) ?_ _
    rotate_left 1
    all_goals (
      have hq := hHeld
      go_wp2
      exact piece_ret rfl rfl hq (by repeat (first | with_reducible exact Below.refl _ _ | with_reducible assumption | with_reducible refine Below.alloc ?_ (by first | exact Nat.le_refl _ | (simp; done) | (simp; omega) | omega) _ | with_reducible refine Below.setCell ?_ (by first | exact Nat.le_refl _ | (simp; done) | (simp; omega) | omega) _ | with_reducible refine Below.drew ?_ | with_reducible refine bdrewN ?_ _)))
  · have hr2 : ¬ (s.extract tx.size s.size).toList = [] := by rw [hrl]; exact hr
    have hE := endOK_ne hr
    have hr3 : (s.extract tx.size s.size).toList.isEmpty = false := by rw [hrl]; cases rl with | nil => exact absurd rfl hr | cons _ _ => rfl
    clear hrl hr
    generalize isP rl behindL = bb at *
    unfold behindL at k3
    subst hE
    refine wp_region_held_drew (S := (fun w' => w'.cell? ⟨w.heap.size, 0, none⟩ = some (.int .i64 4) ∧ w'.cell? ⟨w.heap.size, 1, none⟩ = some (.string tx) ∧ w'.cell? ⟨w.heap.size, 2, none⟩ = some (.int .i64 0) ∧ w'.frozen? ⟨w.heap.size, 0, none⟩ = false ∧ w'.frozen? ⟨w.heap.size, 1, none⟩ = false ∧ w'.frozen? ⟨w.heap.size, 2, none⟩ = false)) (by kernel_rfl) ?_ (fun hHeld => ?_)
    · first | exact ⟨by simp [go_sem, c0_3, c1_3, c2_3], by simp [go_sem, c0_3, c1_3, c2_3], by simp [go_sem, c0_3, c1_3, c2_3], by simp [go_sem, f0_3, f1_3, f2_3], by simp [go_sem, f0_3, f1_3, f2_3], by simp [go_sem, f0_3, f1_3, f2_3]⟩ | (simp [go_sem]; done)
    refine wpAnyH_take (i := 0) (oi := { dst := some 59, op := Go.Op.load 35 (Go.Operand.tmp 2), type := 35, pos := "lex.go:58", after := #[], guard := none }) (v := ?_) rfl (by kernel_rfl) (by kernel_rfl) (by kernel_rfl) (fun _ _ _ h => h) (Or.inl ⟨by rfl, ?_⟩) (by assumption) ?_
    rotate_left 1
    · intro w_ hSw; (try dsimp only at hSw); go_simp; all_goals (with_reducible rfl)
    focus try simp only [Act.put, List.setIfInBounds_toArray, List.set_cons_zero, List.set_cons_succ]
    refine wpAnyH_take (i := 1) (oi := { dst := some 60, op := Go.Op.move (Go.Operand.tmp 7), type := 9, pos := "lex.go:58", after := #[], guard := none }) (v := ?_) rfl (by kernel_rfl) (by kernel_rfl) (by kernel_rfl) (fun _ _ _ h => h) (Or.inl ⟨by rfl, ?_⟩) (by assumption) ?_
    rotate_left 1
    · intro w_ hSw; (try dsimp only at hSw); go_simp; all_goals (with_reducible rfl)
    focus try simp only [Act.put, List.setIfInBounds_toArray, List.set_cons_zero, List.set_cons_succ]
    refine wpAnyH_take (i := 2) (oi := { dst := some 61, op := Go.Op.binOp Go.BinOp.eql 9 (Go.Operand.tmp 60) (Go.Operand.const (Go.Value.string { data := #[] })) 9, type := 4, pos := "lex.go:58", after := #[{ on := 1, ground := Go.Ground.data }], guard := none }) (v := ?_) rfl (by kernel_rfl) (by kernel_rfl) (by kernel_rfl) (fun _ _ _ h => h) (Or.inl ⟨by rfl, ?_⟩) (by assumption) ?_
    rotate_left 1
    · intro w_ hSw; (try dsimp only at hSw); go_simp; all_goals (with_reducible rfl)
    focus try simp only [Act.put, List.setIfInBounds_toArray, List.set_cons_zero, List.set_cons_succ]
    refine wpAnyH_take (i := 3) (oi := { dst := some 62, op := Go.Op.move (Go.Operand.tmp 61), type := 4, pos := "lex.go:58", after := #[{ on := 2, ground := Go.Ground.data }], guard := none }) (v := ?_) rfl (by kernel_rfl) (by kernel_rfl) (by kernel_rfl) (fun _ _ _ h => h) (Or.inl ⟨by rfl, ?_⟩) (by assumption) ?_
    rotate_left 1
    · intro w_ hSw; (try dsimp only at hSw); go_simp; all_goals (with_reducible rfl)
    focus try simp only [Act.put, List.setIfInBounds_toArray, List.set_cons_zero, List.set_cons_succ]
    first | (refine wpAnyH_take (i := 4) (oi := { dst := some 63, op := Go.Op.move (Go.Operand.tmp 7), type := 9, pos := "lex.go:58", after := #[{ on := 3, ground := Go.Ground.guard }], guard := some (3, false) }) (v := ?_) rfl (by kernel_rfl) (by kernel_rfl) (by kernel_rfl) (fun _ _ _ h => h) (Or.inl ⟨by rfl, ?_⟩) (by assumption) ?_; rotate_left 1; focus (intro w_ hSw; (try dsimp only at hSw); go_simp; all_goals (with_reducible rfl); done)) | (refine wpAnyH_take (i := 4) (oi := { dst := some 63, op := Go.Op.move (Go.Operand.tmp 7), type := 9, pos := "lex.go:58", after := #[{ on := 3, ground := Go.Ground.guard }], guard := some (3, false) }) rfl (by kernel_rfl) (by kernel_rfl) (by kernel_rfl) (fun _ _ _ h => h) (Or.inr ⟨by rfl, rfl⟩) (by assumption) ?_)
    focus try simp only [Act.put, List.setIfInBounds_toArray, List.set_cons_zero, List.set_cons_succ]
    refine wpAnyH_ready (rs := [5]) (by kernel_rfl) (by simp) ?_
    refine AllReadyH.cons (o := { dst := some 64, op := Go.Op.call { callee := Go.Callee.value (Go.Operand.func 30), args := #[Go.Operand.tmp 63, Go.Operand.const (Go.Value.string { data := #[9, 10, 13, 32, 59, 40, 41] })], argTypes := #[9, 9] }, type := 4, pos := "lex.go:58", after := #[{ on := 4, ground := Go.Ground.data }, { on := 3, ground := Go.Ground.chain }, { on := 3, ground := Go.Ground.guard }], guard := some (3, false) }) rfl (fun K hK => ?_) (AllReadyH.nil)
    focus go_simp
    focus (refine (k3.out _).mono ?_; rintro e wz ⟨rfl, rfl⟩)
    focus try simp only []
    refine hK.out _ _ ?_ (fun hHeld => ?_)
    · exact hHeld
    focus clear hK K
    focus try simp only [Act.put, List.setIfInBounds_toArray, List.set_cons_zero, List.set_cons_succ]
    refine wpAnyH_take (i := 6) (oi := { dst := some 65, op := Go.Op.pick (Go.Operand.tmp 62) (Go.Operand.const (Go.Value.bool true)) (Go.Operand.tmp 64), type := 4, pos := "lex.go:58", after := #[{ on := 3, ground := Go.Ground.data }, { on := 5, ground := Go.Ground.data }, { on := 7, ground := Go.Ground.gcOnly Go.Departure.lateStores }], guard := none }) (v := ?_) rfl (by kernel_rfl) (by kernel_rfl) (by kernel_rfl) (fun _ _ _ h => h) (Or.inl ⟨by rfl, ?_⟩) (by assumption) ?_
    rotate_left 1
    · intro w_ hSw; (try dsimp only at hSw); go_simp; all_goals (with_reducible rfl)
    focus try simp only [Act.put, List.setIfInBounds_toArray, List.set_cons_zero, List.set_cons_succ]
    refine wpAnyH_ready (rs := [7]) (by kernel_rfl) (by simp) ?_
    refine AllReadyH.cons (o := { dst := none, op := Go.Op.store 35 (Go.Operand.tmp 2) (Go.Operand.tmp 59), type := 0, pos := "lex.go:58", after := #[{ on := 0, ground := Go.Ground.data }, { on := 5, ground := Go.Ground.chain }, { on := 0, ground := Go.Ground.phase }, { on := 1, ground := Go.Ground.textOnly Go.Departure.lateStores }, { on := 2, ground := Go.Ground.textOnly Go.Departure.lateStores }, { on := 3, ground := Go.Ground.textOnly Go.Departure.lateStores }, { on := 4, ground := Go.Ground.textOnly Go.Departure.lateStores }, { on := 5, ground := Go.Ground.textOnly Go.Departure.lateStoresUnsure }, { on := 6, ground := Go.Ground.textOnly Go.Departure.lateStores }], guard := none }) rfl (fun K hK => ?_) (AllReadyH.nil)
    focus go_simp
    refine hK.out _ _ ?_ (fun hHeld => ?_)
    · exact box3_drew hHeld
    focus clear hK K
    focus try simp only [Act.put, List.setIfInBounds_toArray, List.set_cons_zero, List.set_cons_succ]
    refine wpAnyH_take (i := 8) (oi := { dst := some 3, op := Go.Op.assign (Go.Operand.tmp 65), type := 4, pos := "lex.go:58", after := #[{ on := 6, ground := Go.Ground.data }, { on := 7, ground := Go.Ground.chain }, { on := 0, ground := Go.Ground.phase }, { on := 1, ground := Go.Ground.phase }, { on := 2, ground := Go.Ground.phase }, { on := 3, ground := Go.Ground.phase }, { on := 4, ground := Go.Ground.phase }, { on := 5, ground := Go.Ground.phase }, { on := 6, ground := Go.Ground.phase }, { on := 7, ground := Go.Ground.phase }], guard := none }) (v := ?_) rfl (by kernel_rfl) (by kernel_rfl) (by kernel_rfl) (fun _ _ _ h => h) (Or.inl ⟨by rfl, ?_⟩) (by assumption) ?_
    rotate_left 1
    · intro w_ hSw; (try dsimp only at hSw); go_simp; all_goals (with_reducible rfl)
    focus try simp only [Act.put, List.setIfInBounds_toArray, List.set_cons_zero, List.set_cons_succ]
    refine wpAnyH_done (by kernel_rfl) ?_ _
    rotate_left 1
    all_goals (
      have hq := hHeld
      go_wp2
      exact piece_ret rfl rfl hq (by repeat (first | with_reducible exact Below.refl _ _ | with_reducible assumption | with_reducible refine Below.alloc ?_ (by first | exact Nat.le_refl _ | (simp; done) | (simp; omega) | omega) _ | with_reducible refine Below.setCell ?_ (by first | exact Nat.le_refl _ | (simp; done) | (simp; omega) | omega) _ | with_reducible refine Below.drew ?_ | with_reducible refine bdrewN ?_ _)))

end Go.Proofs.YtnegkabafigfnaaDoor.Lex
