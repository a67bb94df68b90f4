/- Contracts of num: Make and its closure. -/
import Derived.Test.YtnggikhpnophgaaNumG
namespace Go.Proofs.Ytnggikhpnophgaa.Num
open Go.RowKit
set_option linter.unusedVariables false
set_option linter.unusedSimpArgs false

/-- A rat in lowest terms, of any numbers. -/
def lowP (p q : Int) : Int := if sg p q = true then -(sz p / Int.gcd p q) else sz p / Int.gcd p q
def lowQ (p q : Int) : Int := sz q / Int.gcd p q

theorem gcd_pos {p q : Int} (hq : q ≠ 0) : 0 < (Int.gcd p q : Int) := by
  have := Int.gcd_pos_of_ne_zero_right p hq
  omega

theorem wv_low1 (p q : Int) (hp : In64 p) (hq : q ≠ 0) : WV (lowP p q) (sg p q) 0 (sz p / Int.gcd p q) := by
  have g0 := gcd_pos (p := p) hq
  have a1 := sz_nonneg p
  have a2 := sz_le hp.1 hp.2
  have := Int.ediv_nonneg a1 (Int.le_of_lt g0)
  have := Int.ediv_le_self (Int.gcd p q : Int) a1
  refine ⟨by omega, by omega, by omega, by omega, ?_⟩
  unfold lowP
  simp

theorem wv_low2 (p q : Int) (hp : In64 q) (hq : q ≠ 0) : WV (lowQ p q) false 0 (sz q / Int.gcd p q) := by
  have g0 := gcd_pos (p := p) hq
  have a1 := sz_nonneg q
  have a2 := sz_le hp.1 hp.2
  have := Int.ediv_nonneg a1 (Int.le_of_lt g0)
  have := Int.ediv_le_self (Int.gcd p q : Int) a1
  refine ⟨by omega, by omega, by omega, by omega, ?_⟩
  unfold lowQ
  simp

theorem sg_spell (p q : Int) : (!(decide (p < 0) == decide (q < 0))) = sg p q := by
  unfold sg
  cases decide (p < 0) <;> cases decide (q < 0) <;> rfl
theorem div_spell {a g : Int} (ha : 0 ≤ a) (ha2 : a < 18446744073709551616) (hg : 0 < g) : IntKind.u64.wrap (a.tdiv g) = a / g := by
  rw [Int.tdiv_eq_ediv_of_nonneg ha, IntKind.wrap_u64]
  have := Int.ediv_nonneg ha (Int.le_of_lt hg)
  have := Int.ediv_le_self g ha
  omega

set_option maxHeartbeats 1000000 in
theorem make1_ok (p q : Int) (b c : Nat) (w : World) (hp : In64 p) (hq : In64 q) (h0 : q ≠ 0) (hb : w.cell? ⟨b, 0, none⟩ = some (.int .i64 p)) (hc : w.cell? ⟨c, 0, none⟩ = some (.int .i64 q)) (bl : b < w.heap.size) (cl : c < w.heap.size)
    (hP : In64 (lowP p q)) (hQ : In64 (lowQ p q)) :
    Calls Try.prog 43 #[.pointer (some ⟨b, 0, none⟩), .pointer (some ⟨c, 0, none⟩)] w fun e w' => e = .returned (RV (lowP p q) (lowQ p q)) ∧ Below w.heap.size w w' := by
  have s1 := Lib.hid (fun W0 => size_any p W0 hp.1 hp.2)
  have s2 := Lib.hid (fun W0 => size_any q W0 hq.1 hq.2)
  have a1 := sz_nonneg p
  have a2 := sz_le hp.1 hp.2
  have b1 := sz_nonneg q
  have b2 := sz_le hq.1 hq.2
  have gg := Lib.hid (fun W0 => gcd_any (sz p) (sz q) W0 a1 (by omega) b1 (by omega))
  have g0 := gcd_pos (p := p) h0
  have g1 := gcd_le a1 b1 (by omega) (by omega)
  rw [gcd_sz] at gg g1
  have hn : ¬ (Int.gcd p q : Int) = 0 := by omega
  have hn2 : ((Int.gcd p q : Int) == 0) = false := beq_eq_false_iff_ne.2 hn
  have rr := Lib.hid (fun W0 => rat_ok (wv_low1 p q hp h0) (wv_low2 p q hq h0) hP hQ W0)
  have hsg := sg_spell p q
  have hd1 := div_spell (g := (Int.gcd p q : Int)) a1 (by omega) g0
  have hd2 := div_spell (g := (Int.gcd p q : Int)) b1 (by omega) g0
  clear hp hq h0 hP hQ
  generalize (Int.gcd p q : Int) = g at *
  go_enter Try.func43, Try.ntmps43
  go_wp2
  refine wp_region_held_drew (S := (fun w' => w'.cell? ⟨b, 0, none⟩ = some (.int .i64 p) ∧ w'.cell? ⟨c, 0, none⟩ = some (.int .i64 q))) (by kernel_rfl) ?_ (fun hHeld => ?_)
  · (simp [go_sem, hb, hc, bl, cl]; done)
  refine wpAnyH_take (i := 0) (oi := { dst := some 4, op := Go.Op.load 2 (Go.Operand.tmp 0), type := 2, pos := "num.go:121", after := #[], guard := none }) (v := ?_) rfl (by kernel_rfl) (by kernel_rfl) (by kernel_rfl) (fun _ _ _ h => h) (Or.inl ⟨by rfl, ?_⟩) (by assumption) ?_
  rotate_left 1
  · intro w_ hSw; (try dsimp only at hSw); go_simp; all_goals (with_reducible rfl)
  focus try simp only [Act.put, List.setIfInBounds_toArray, List.set_cons_zero, List.set_cons_succ]
  refine wpAnyH_take (i := 2) (oi := { dst := some 6, op := Go.Op.load 2 (Go.Operand.tmp 1), type := 2, pos := "num.go:121", after := #[], guard := none }) (v := ?_) rfl (by kernel_rfl) (by kernel_rfl) (by kernel_rfl) (fun _ _ _ h => h) (Or.inl ⟨by rfl, ?_⟩) (by assumption) ?_
  rotate_left 1
  · intro w_ hSw; (try dsimp only at hSw); go_simp; all_goals (with_reducible rfl)
  focus try simp only [Act.put, List.setIfInBounds_toArray, List.set_cons_zero, List.set_cons_succ]
  refine wpAnyH_ready (rs := [1]) (by kernel_rfl) (by simp) ?_
  refine AllReadyH.cons (o := { dst := some 5, op := Go.Op.call { callee := Go.Callee.value (Go.Operand.func 45), args := #[Go.Operand.tmp 4], argTypes := #[2] }, type := 54, pos := "num.go:121", after := #[{ on := 0, ground := Go.Ground.data }], guard := none }) rfl (fun K hK => ?_) (AllReadyH.nil)
  focus go_simp
  focus (refine (s1.out _).mono ?_; rintro e w1 ⟨rfl, rfl⟩)
  focus try simp only []
  refine hK.out _ _ ?_ (fun hHeld => ?_)
  · (simp [go_sem, hb, hc, bl, cl]; done)
  focus clear hK K
  focus try simp only [Act.put, List.setIfInBounds_toArray, List.set_cons_zero, List.set_cons_succ]
  refine wpAnyH_ready (rs := [3]) (by kernel_rfl) (by simp) ?_
  refine AllReadyH.cons (o := { dst := some 7, op := Go.Op.call { callee := Go.Callee.value (Go.Operand.func 45), args := #[Go.Operand.tmp 6], argTypes := #[2] }, type := 54, pos := "num.go:121", after := #[{ on := 2, ground := Go.Ground.data }, { on := 1, ground := Go.Ground.chain }], guard := none }) rfl (fun K hK => ?_) (AllReadyH.nil)
  focus go_simp
  focus (refine (s2.out _).mono ?_; rintro e w1 ⟨rfl, rfl⟩)
  focus try simp only []
  refine hK.out _ _ ?_ (fun hHeld => ?_)
  · (simp [go_sem, hb, hc, bl, cl]; done)
  focus clear hK K
  focus try simp only [Act.put, List.setIfInBounds_toArray, List.set_cons_zero, List.set_cons_succ]
  refine wpAnyH_ready (rs := [4]) (by kernel_rfl) (by simp) ?_
  refine AllReadyH.cons (o := { dst := some 8, op := Go.Op.call { callee := Go.Callee.value (Go.Operand.func 44), args := #[Go.Operand.tmp 5, Go.Operand.tmp 7], argTypes := #[54, 54] }, type := 54, pos := "num.go:121", after := #[{ on := 1, ground := Go.Ground.data }, { on := 3, ground := Go.Ground.data }, { on := 3, ground := Go.Ground.chain }], guard := none }) rfl (fun K hK => ?_) (AllReadyH.nil)
  focus go_simp
  focus (refine (gg.out _).mono ?_; rintro e w1 ⟨rfl, n, rfl⟩)
  focus try simp only []
  refine hK.out _ _ ?_ (fun hHeld => ?_)
  · (simp [go_sem, hb, hc, bl, cl]; done)
  focus clear hK K
  focus try simp only [Act.put, List.setIfInBounds_toArray, List.set_cons_zero, List.set_cons_succ]
  refine wpAnyH_take (i := 5) (oi := { dst := some 3, op := Go.Op.assign (Go.Operand.tmp 8), type := 54, pos := "num.go:121", after := #[{ on := 4, ground := Go.Ground.data }, { on := 4, ground := Go.Ground.chain }, { on := 0, ground := Go.Ground.phase }, { on := 1, ground := Go.Ground.phase }, { on := 2, ground := Go.Ground.phase }, { on := 3, ground := Go.Ground.phase }, { on := 4, ground := Go.Ground.phase }], guard := none }) (v := ?_) rfl (by kernel_rfl) (by kernel_rfl) (by kernel_rfl) (fun _ _ _ h => h) (Or.inl ⟨by rfl, ?_⟩) (by assumption) ?_
  rotate_left 1
  · intro w_ hSw; (try dsimp only at hSw); go_simp; all_goals (with_reducible rfl)
  focus try simp only [Act.put, List.setIfInBounds_toArray, List.set_cons_zero, List.set_cons_succ]
  refine wpAnyH_done (by kernel_rfl) ?_ _
  rotate_left 1
  go_wp2
  refine wp_region_held_drew (S := (fun w' => w'.cell? ⟨b, 0, none⟩ = some (.int .i64 p) ∧ w'.cell? ⟨c, 0, none⟩ = some (.int .i64 q))) (by kernel_rfl) ?_ (fun hHeld => ?_)
  · (first | (simp [go_sem, hb, hc, bl, cl]; done) | exact ⟨keepcell (by assumption) (by simp [go_sem, hb, hc, bl, cl]), keepcell (by assumption) (by simp [go_sem, hb, hc, bl, cl])⟩ | exact ⟨keepset (by omega) (keepset (by omega) (keepcell (by assumption) (by simp [go_sem, hb, hc, bl, cl]))), keepset (by omega) (keepset (by omega) (keepcell (by assumption) (by simp [go_sem, hb, hc, bl, cl])))⟩)
  refine wpAnyH_take (i := 0) (oi := { dst := some 9, op := Go.Op.load 2 (Go.Operand.tmp 0), type := 2, pos := "num.go:122", after := #[], guard := none }) (v := ?_) rfl (by kernel_rfl) (by kernel_rfl) (by kernel_rfl) (fun _ _ _ h => h) (Or.inl ⟨by rfl, ?_⟩) (by assumption) ?_
  rotate_left 1
  · intro w_ hSw; (try dsimp only at hSw); go_simp; all_goals (with_reducible rfl)
  focus try simp only [Act.put, List.setIfInBounds_toArray, List.set_cons_zero, List.set_cons_succ]
  refine wpAnyH_take (i := 1) (oi := { dst := some 10, op := Go.Op.binOp Go.BinOp.lss 2 (Go.Operand.tmp 9) (Go.Operand.const (Go.Value.int Go.IntKind.i64 0)) 2, type := 4, pos := "num.go:122", after := #[{ on := 0, ground := Go.Ground.data }], guard := none }) (v := ?_) rfl (by kernel_rfl) (by kernel_rfl) (by kernel_rfl) (fun _ _ _ h => h) (Or.inl ⟨by rfl, ?_⟩) (by assumption) ?_
  rotate_left 1
  · intro w_ hSw; (try dsimp only at hSw); go_simp; all_goals (with_reducible rfl)
  focus try simp only [Act.put, List.setIfInBounds_toArray, List.set_cons_zero, List.set_cons_succ]
  refine wpAnyH_take (i := 2) (oi := { dst := some 11, op := Go.Op.load 2 (Go.Operand.tmp 1), type := 2, pos := "num.go:122", after := #[], guard := none }) (v := ?_) rfl (by kernel_rfl) (by kernel_rfl) (by kernel_rfl) (fun _ _ _ h => h) (Or.inl ⟨by rfl, ?_⟩) (by assumption) ?_
  rotate_left 1
  · intro w_ hSw; (try dsimp only at hSw); go_simp; all_goals (with_reducible rfl)
  focus try simp only [Act.put, List.setIfInBounds_toArray, List.set_cons_zero, List.set_cons_succ]
  refine wpAnyH_take (i := 3) (oi := { dst := some 12, op := Go.Op.binOp Go.BinOp.lss 2 (Go.Operand.tmp 11) (Go.Operand.const (Go.Value.int Go.IntKind.i64 0)) 2, type := 4, pos := "num.go:122", after := #[{ on := 2, ground := Go.Ground.data }], guard := none }) (v := ?_) rfl (by kernel_rfl) (by kernel_rfl) (by kernel_rfl) (fun _ _ _ h => h) (Or.inl ⟨by rfl, ?_⟩) (by assumption) ?_
  rotate_left 1
  · intro w_ hSw; (try dsimp only at hSw); go_simp; all_goals (with_reducible rfl)
  focus try simp only [Act.put, List.setIfInBounds_toArray, List.set_cons_zero, List.set_cons_succ]
  refine wpAnyH_take (i := 4) (oi := { dst := some 13, op := Go.Op.binOp Go.BinOp.neq 4 (Go.Operand.tmp 10) (Go.Operand.tmp 12) 4, type := 4, pos := "num.go:122", after := #[{ on := 1, ground := Go.Ground.data }, { on := 3, ground := Go.Ground.data }], guard := none }) (v := ?_) rfl (by kernel_rfl) (by kernel_rfl) (by kernel_rfl) (fun _ _ _ h => h) (Or.inl ⟨by rfl, ?_⟩) (by assumption) ?_
  rotate_left 1
  · intro w_ hSw; (try dsimp only at hSw); go_simp; all_goals (with_reducible rfl)
  focus try simp only [Act.put, List.setIfInBounds_toArray, List.set_cons_zero, List.set_cons_succ]
  refine wpAnyH_take (i := 5) (oi := { dst := some 14, op := Go.Op.load 2 (Go.Operand.tmp 0), type := 2, pos := "num.go:122", after := #[], guard := none }) (v := ?_) rfl (by kernel_rfl) (by kernel_rfl) (by kernel_rfl) (fun _ _ _ h => h) (Or.inl ⟨by rfl, ?_⟩) (by assumption) ?_
  rotate_left 1
  · intro w_ hSw; (try dsimp only at hSw); go_simp; all_goals (with_reducible rfl)
  focus try simp only [Act.put, List.setIfInBounds_toArray, List.set_cons_zero, List.set_cons_succ]
  refine wpAnyH_take (i := 7) (oi := { dst := some 16, op := Go.Op.move (Go.Operand.tmp 3), type := 54, pos := "num.go:122", after := #[], guard := none }) (v := ?_) rfl (by kernel_rfl) (by kernel_rfl) (by kernel_rfl) (fun _ _ _ h => h) (Or.inl ⟨by rfl, ?_⟩) (by assumption) ?_
  rotate_left 1
  · intro w_ hSw; (try dsimp only at hSw); go_simp; all_goals (with_reducible rfl)
  focus try simp only [Act.put, List.setIfInBounds_toArray, List.set_cons_zero, List.set_cons_succ]
  refine wpAnyH_take (i := 10) (oi := { dst := some 19, op := Go.Op.load 2 (Go.Operand.tmp 1), type := 2, pos := "num.go:122", after := #[], guard := none }) (v := ?_) rfl (by kernel_rfl) (by kernel_rfl) (by kernel_rfl) (fun _ _ _ h => h) (Or.inl ⟨by rfl, ?_⟩) (by assumption) ?_
  rotate_left 1
  · intro w_ hSw; (try dsimp only at hSw); go_simp; all_goals (with_reducible rfl)
  focus try simp only [Act.put, List.setIfInBounds_toArray, List.set_cons_zero, List.set_cons_succ]
  refine wpAnyH_take (i := 12) (oi := { dst := some 21, op := Go.Op.move (Go.Operand.tmp 3), type := 54, pos := "num.go:122", after := #[], guard := none }) (v := ?_) rfl (by kernel_rfl) (by kernel_rfl) (by kernel_rfl) (fun _ _ _ h => h) (Or.inl ⟨by rfl, ?_⟩) (by assumption) ?_
  rotate_left 1
  · intro w_ hSw; (try dsimp only at hSw); go_simp; all_goals (with_reducible rfl)
  focus try simp only [Act.put, List.setIfInBounds_toArray, List.set_cons_zero, List.set_cons_succ]
  refine wpAnyH_ready (rs := [6]) (by kernel_rfl) (by simp) ?_
  refine AllReadyH.cons (o := { dst := some 15, op := Go.Op.call { callee := Go.Callee.value (Go.Operand.func 45), args := #[Go.Operand.tmp 14], argTypes := #[2] }, type := 54, pos := "num.go:122", after := #[{ on := 5, ground := Go.Ground.data }], guard := none }) rfl (fun K hK => ?_) (AllReadyH.nil)
  focus go_simp
  focus (refine (s1.out _).mono ?_; rintro e w1 ⟨rfl, rfl⟩)
  focus try simp only []
  refine hK.out _ _ ?_ (fun hHeld => ?_)
  · (first | (simp [go_sem, hb, hc, bl, cl]; done) | exact ⟨keepcell (by assumption) (by simp [go_sem, hb, hc, bl, cl]), keepcell (by assumption) (by simp [go_sem, hb, hc, bl, cl])⟩ | exact ⟨keepset (by omega) (keepset (by omega) (keepcell (by assumption) (by simp [go_sem, hb, hc, bl, cl]))), keepset (by omega) (keepset (by omega) (keepcell (by assumption) (by simp [go_sem, hb, hc, bl, cl])))⟩)
  focus clear hK K
  focus try simp only [Act.put, List.setIfInBounds_toArray, List.set_cons_zero, List.set_cons_succ]
  refine wpAnyH_take (i := 8) (oi := { dst := some 17, op := Go.Op.binOp Go.BinOp.quo 54 (Go.Operand.tmp 15) (Go.Operand.tmp 16) 54, type := 54, pos := "num.go:122", after := #[{ on := 6, ground := Go.Ground.data }, { on := 7, ground := Go.Ground.data }], guard := none }) (v := ?_) rfl (by kernel_rfl) (by kernel_rfl) (by kernel_rfl) (fun _ _ _ h => h) (Or.inl ⟨by rfl, ?_⟩) (by assumption) ?_
  rotate_left 1
  · intro w_ hSw; (try dsimp only at hSw); go_simp; all_goals (with_reducible rfl)
  focus try simp only [Act.put, List.setIfInBounds_toArray, List.set_cons_zero, List.set_cons_succ]
  refine wpAnyH_take (i := 9) (oi := { dst := some 18, op := Go.Op.build 59 #[(0, Go.Operand.tmp 13), (1, Go.Operand.const (Go.Value.int Go.IntKind.u64 0)), (2, Go.Operand.tmp 17)], type := 59, pos := "num.go:122", after := #[{ on := 4, ground := Go.Ground.data }, { on := 8, ground := Go.Ground.data }], guard := none }) (v := ?_) rfl (by kernel_rfl) (by kernel_rfl) (by kernel_rfl) (fun _ _ _ h => h) (Or.inl ⟨by rfl, ?_⟩) (by assumption) ?_
  rotate_left 1
  · intro w_ hSw; (try dsimp only at hSw); go_simp; all_goals (with_reducible rfl)
  focus try simp only [Act.put, List.setIfInBounds_toArray, List.set_cons_zero, List.set_cons_succ]
  refine wpAnyH_ready (rs := [11]) (by kernel_rfl) (by simp) ?_
  refine AllReadyH.cons (o := { dst := some 20, op := Go.Op.call { callee := Go.Callee.value (Go.Operand.func 45), args := #[Go.Operand.tmp 19], argTypes := #[2] }, type := 54, pos := "num.go:122", after := #[{ on := 10, ground := Go.Ground.data }, { on := 6, ground := Go.Ground.chain }], guard := none }) rfl (fun K hK => ?_) (AllReadyH.nil)
  focus go_simp
  focus (refine (s2.out _).mono ?_; rintro e w1 ⟨rfl, rfl⟩)
  focus try simp only []
  refine hK.out _ _ ?_ (fun hHeld => ?_)
  · (first | (simp [go_sem, hb, hc, bl, cl]; done) | exact ⟨keepcell (by assumption) (by simp [go_sem, hb, hc, bl, cl]), keepcell (by assumption) (by simp [go_sem, hb, hc, bl, cl])⟩ | exact ⟨keepset (by omega) (keepset (by omega) (keepcell (by assumption) (by simp [go_sem, hb, hc, bl, cl]))), keepset (by omega) (keepset (by omega) (keepcell (by assumption) (by simp [go_sem, hb, hc, bl, cl])))⟩)
  focus clear hK K
  focus try simp only [Act.put, List.setIfInBounds_toArray, List.set_cons_zero, List.set_cons_succ]
  refine wpAnyH_take (i := 13) (oi := { dst := some 22, op := Go.Op.binOp Go.BinOp.quo 54 (Go.Operand.tmp 20) (Go.Operand.tmp 21) 54, type := 54, pos := "num.go:122", after := #[{ on := 11, ground := Go.Ground.data }, { on := 12, ground := Go.Ground.data }], guard := none }) (v := ?_) rfl (by kernel_rfl) (by kernel_rfl) (by kernel_rfl) (fun _ _ _ h => h) (Or.inl ⟨by rfl, ?_⟩) (by assumption) ?_
  rotate_left 1
  · intro w_ hSw; (try dsimp only at hSw); go_simp; all_goals (with_reducible rfl)
  focus try simp only [Act.put, List.setIfInBounds_toArray, List.set_cons_zero, List.set_cons_succ]
  refine wpAnyH_take (i := 14) (oi := { dst := some 23, op := Go.Op.build 59 #[(2, Go.Operand.tmp 22)], type := 59, pos := "num.go:122", after := #[{ on := 13, ground := Go.Ground.data }], guard := none }) (v := ?_) rfl (by kernel_rfl) (by kernel_rfl) (by kernel_rfl) (fun _ _ _ h => h) (Or.inl ⟨by rfl, ?_⟩) (by assumption) ?_
  rotate_left 1
  · intro w_ hSw; (try dsimp only at hSw); go_simp; all_goals (with_reducible rfl)
  focus try simp only [Act.put, List.setIfInBounds_toArray, List.set_cons_zero, List.set_cons_succ]
  refine wpAnyH_ready (rs := [15]) (by kernel_rfl) (by simp) ?_
  refine AllReadyH.cons (o := { dst := some 24, op := Go.Op.call { callee := Go.Callee.value (Go.Operand.func 46), args := #[Go.Operand.tmp 18, Go.Operand.tmp 23], argTypes := #[59, 59] }, type := 24, pos := "num.go:122", after := #[{ on := 9, ground := Go.Ground.data }, { on := 14, ground := Go.Ground.data }, { on := 11, ground := Go.Ground.chain }], guard := none }) rfl (fun K hK => ?_) (AllReadyH.nil)
  focus go_simp
  focus (refine (rr.out _).mono ?_; rintro e w1 ⟨rfl, hb1⟩; obtain ⟨g1, g2, g3⟩ := bgrow hb1)
  focus try simp only []
  refine hK.out _ _ ?_ (fun hHeld => ?_)
  · (first | (simp [go_sem, hb, hc, bl, cl]; done) | exact ⟨keepcell (by assumption) (by simp [go_sem, hb, hc, bl, cl]), keepcell (by assumption) (by simp [go_sem, hb, hc, bl, cl])⟩ | exact ⟨keepset (by omega) (keepset (by omega) (keepcell (by assumption) (by simp [go_sem, hb, hc, bl, cl]))), keepset (by omega) (keepset (by omega) (keepcell (by assumption) (by simp [go_sem, hb, hc, bl, cl])))⟩)
  focus clear hK K
  focus try simp only [Act.put, List.setIfInBounds_toArray, List.set_cons_zero, List.set_cons_succ]
  refine wpAnyH_ready (rs := [16]) (by kernel_rfl) (by simp) ?_
  refine AllReadyH.cons (o := { dst := none, op := Go.Op.store 24 (Go.Operand.tmp 2) (Go.Operand.tmp 24), type := 0, pos := "num.go:122", after := #[{ on := 15, ground := Go.Ground.data }, { on := 15, ground := Go.Ground.chain }, { on := 0, ground := Go.Ground.phase }, { on := 1, ground := Go.Ground.phase }, { on := 2, ground := Go.Ground.phase }, { on := 3, ground := Go.Ground.phase }, { on := 4, ground := Go.Ground.phase }, { on := 5, ground := Go.Ground.phase }, { on := 6, ground := Go.Ground.phase }, { on := 7, ground := Go.Ground.phase }, { on := 8, ground := Go.Ground.phase }, { on := 9, ground := Go.Ground.phase }, { on := 10, ground := Go.Ground.phase }, { on := 11, ground := Go.Ground.phase }, { on := 12, ground := Go.Ground.phase }, { on := 13, ground := Go.Ground.phase }, { on := 14, ground := Go.Ground.phase }, { on := 15, ground := Go.Ground.phase }], guard := none }) rfl (fun K hK => ?_) (AllReadyH.nil)
  focus go_simp
  refine hK.out _ _ ?_ (fun hHeld => ?_)
  · (first | (simp [go_sem, hb, hc, bl, cl]; done) | exact ⟨keepcell (by assumption) (by simp [go_sem, hb, hc, bl, cl]), keepcell (by assumption) (by simp [go_sem, hb, hc, bl, cl])⟩ | exact ⟨keepset (by omega) (keepset (by omega) (keepcell (by assumption) (by simp [go_sem, hb, hc, bl, cl]))), keepset (by omega) (keepset (by omega) (keepcell (by assumption) (by simp [go_sem, hb, hc, bl, cl])))⟩)
  focus clear hK K
  focus try simp only [Act.put, List.setIfInBounds_toArray, List.set_cons_zero, List.set_cons_succ]
  refine wpAnyH_done (by kernel_rfl) ?_ _
  rotate_left 1
  go_wp2
  have hbw : Below w.heap.size w w1 := Below.trans (b := (w.alloc (Obj.cells #[Value.int IntKind.i64 0, Value.int IntKind.i64 0] 24)).drewN (1 + n + 1)) (by repeat (first | exact Below.refl _ _ | with_reducible assumption | refine Below.alloc ?_ (by first | exact Nat.le_refl _ | (simp; done) | (simp; omega) | omega) _ | refine Below.setCell ?_ (by first | exact Nat.le_refl _ | (simp; done) | (simp; omega) | omega) _ | refine Below.drew ?_ | refine bdrewN ?_ _)) (hb1.mono (by first | exact Nat.le_refl _ | (simp; done) | (simp; omega) | omega))
  have k0 : w1.cell? ⟨w.heap.size, 0, none⟩ = some (.int .i64 0) := by rw [g1 _ _ (by first | exact Nat.le_refl _ | (simp; done) | (simp; omega) | omega)]; simp [go_sem]
  have k1 : w1.cell? ⟨w.heap.size, 1, none⟩ = some (.int .i64 0) := by rw [g1 _ _ (by first | exact Nat.le_refl _ | (simp; done) | (simp; omega) | omega)]; simp [go_sem]
  exact bodyPost_ret (v := RV (lowP p q) (lowQ p q)) (by simp [results, Try.results43, go_sem, k0, k1]) rfl ⟨rfl, (by repeat (first | exact Below.refl _ _ | with_reducible assumption | refine Below.alloc ?_ (by first | exact Nat.le_refl _ | (simp; done) | (simp; omega) | omega) _ | refine Below.setCell ?_ (by first | exact Nat.le_refl _ | (simp; done) | (simp; omega) | omega) _ | refine Below.drew ?_ | refine bdrewN ?_ _))⟩
set_option maxHeartbeats 1000000 in
theorem make1_no (p q : Int) (b c : Nat) (w : World) (hp : In64 p) (hq : In64 q) (h0 : q ≠ 0) (hb : w.cell? ⟨b, 0, none⟩ = some (.int .i64 p)) (hc : w.cell? ⟨c, 0, none⟩ = some (.int .i64 q)) (bl : b < w.heap.size) (cl : c < w.heap.size)
    (hPQ : ¬ (In64 (lowP p q) ∧ In64 (lowQ p q))) :
    Calls Try.prog 43 #[.pointer (some ⟨b, 0, none⟩), .pointer (some ⟨c, 0, none⟩)] w fun e w' => e = .panicked LargeP ∧ Below w.heap.size w w' := by
  have s1 := Lib.hid (fun W0 => size_any p W0 hp.1 hp.2)
  have s2 := Lib.hid (fun W0 => size_any q W0 hq.1 hq.2)
  have a1 := sz_nonneg p
  have a2 := sz_le hp.1 hp.2
  have b1 := sz_nonneg q
  have b2 := sz_le hq.1 hq.2
  have gg := Lib.hid (fun W0 => gcd_any (sz p) (sz q) W0 a1 (by omega) b1 (by omega))
  have g0 := gcd_pos (p := p) h0
  have g1 := gcd_le a1 b1 (by omega) (by omega)
  rw [gcd_sz] at gg g1
  have hn : ¬ (Int.gcd p q : Int) = 0 := by omega
  have hn2 : ((Int.gcd p q : Int) == 0) = false := beq_eq_false_iff_ne.2 hn
  have rr := Lib.hid (fun W0 => rat_no (wv_low1 p q hp h0) (wv_low2 p q hq h0) hPQ W0)
  have hsg := sg_spell p q
  have hd1 := div_spell (g := (Int.gcd p q : Int)) a1 (by omega) g0
  have hd2 := div_spell (g := (Int.gcd p q : Int)) b1 (by omega) g0
  clear hp hq h0 hPQ
  generalize (Int.gcd p q : Int) = g at *
  go_enter Try.func43, Try.ntmps43
  go_wp2
  refine wp_region_held_drew (S := (fun w' => w'.cell? ⟨b, 0, none⟩ = some (.int .i64 p) ∧ w'.cell? ⟨c, 0, none⟩ = some (.int .i64 q))) (by kernel_rfl) ?_ (fun hHeld => ?_)
  · (simp [go_sem, hb, hc, bl, cl]; done)
  refine wpAnyH_take (i := 0) (oi := { dst := some 4, op := Go.Op.load 2 (Go.Operand.tmp 0), type := 2, pos := "num.go:121", after := #[], guard := none }) (v := ?_) rfl (by kernel_rfl) (by kernel_rfl) (by kernel_rfl) (fun _ _ _ h => h) (Or.inl ⟨by rfl, ?_⟩) (by assumption) ?_
  rotate_left 1
  · intro w_ hSw; (try dsimp only at hSw); go_simp; all_goals (with_reducible rfl)
  focus try simp only [Act.put, List.setIfInBounds_toArray, List.set_cons_zero, List.set_cons_succ]
  refine wpAnyH_take (i := 2) (oi := { dst := some 6, op := Go.Op.load 2 (Go.Operand.tmp 1), type := 2, pos := "num.go:121", after := #[], guard := none }) (v := ?_) rfl (by kernel_rfl) (by kernel_rfl) (by kernel_rfl) (fun _ _ _ h => h) (Or.inl ⟨by rfl, ?_⟩) (by assumption) ?_
  rotate_left 1
  · intro w_ hSw; (try dsimp only at hSw); go_simp; all_goals (with_reducible rfl)
  focus try simp only [Act.put, List.setIfInBounds_toArray, List.set_cons_zero, List.set_cons_succ]
  refine wpAnyH_ready (rs := [1]) (by kernel_rfl) (by simp) ?_
  refine AllReadyH.cons (o := { dst := some 5, op := Go.Op.call { callee := Go.Callee.value (Go.Operand.func 45), args := #[Go.Operand.tmp 4], argTypes := #[2] }, type := 54, pos := "num.go:121", after := #[{ on := 0, ground := Go.Ground.data }], guard := none }) rfl (fun K hK => ?_) (AllReadyH.nil)
  focus go_simp
  focus (refine (s1.out _).mono ?_; rintro e w1 ⟨rfl, rfl⟩)
  focus try simp only []
  refine hK.out _ _ ?_ (fun hHeld => ?_)
  · (simp [go_sem, hb, hc, bl, cl]; done)
  focus clear hK K
  focus try simp only [Act.put, List.setIfInBounds_toArray, List.set_cons_zero, List.set_cons_succ]
  refine wpAnyH_ready (rs := [3]) (by kernel_rfl) (by simp) ?_
  refine AllReadyH.cons (o := { dst := some 7, op := Go.Op.call { callee := Go.Callee.value (Go.Operand.func 45), args := #[Go.Operand.tmp 6], argTypes := #[2] }, type := 54, pos := "num.go:121", after := #[{ on := 2, ground := Go.Ground.data }, { on := 1, ground := Go.Ground.chain }], guard := none }) rfl (fun K hK => ?_) (AllReadyH.nil)
  focus go_simp
  focus (refine (s2.out _).mono ?_; rintro e w1 ⟨rfl, rfl⟩)
  focus try simp only []
  refine hK.out _ _ ?_ (fun hHeld => ?_)
  · (simp [go_sem, hb, hc, bl, cl]; done)
  focus clear hK K
  focus try simp only [Act.put, List.setIfInBounds_toArray, List.set_cons_zero, List.set_cons_succ]
  refine wpAnyH_ready (rs := [4]) (by kernel_rfl) (by simp) ?_
  refine AllReadyH.cons (o := { dst := some 8, op := Go.Op.call { callee := Go.Callee.value (Go.Operand.func 44), args := #[Go.Operand.tmp 5, Go.Operand.tmp 7], argTypes := #[54, 54] }, type := 54, pos := "num.go:121", after := #[{ on := 1, ground := Go.Ground.data }, { on := 3, ground := Go.Ground.data }, { on := 3, ground := Go.Ground.chain }], guard := none }) rfl (fun K hK => ?_) (AllReadyH.nil)
  focus go_simp
  focus (refine (gg.out _).mono ?_; rintro e w1 ⟨rfl, n, rfl⟩)
  focus try simp only []
  refine hK.out _ _ ?_ (fun hHeld => ?_)
  · (simp [go_sem, hb, hc, bl, cl]; done)
  focus clear hK K
  focus try simp only [Act.put, List.setIfInBounds_toArray, List.set_cons_zero, List.set_cons_succ]
  refine wpAnyH_take (i := 5) (oi := { dst := some 3, op := Go.Op.assign (Go.Operand.tmp 8), type := 54, pos := "num.go:121", after := #[{ on := 4, ground := Go.Ground.data }, { on := 4, ground := Go.Ground.chain }, { on := 0, ground := Go.Ground.phase }, { on := 1, ground := Go.Ground.phase }, { on := 2, ground := Go.Ground.phase }, { on := 3, ground := Go.Ground.phase }, { on := 4, ground := Go.Ground.phase }], guard := none }) (v := ?_) rfl (by kernel_rfl) (by kernel_rfl) (by kernel_rfl) (fun _ _ _ h => h) (Or.inl ⟨by rfl, ?_⟩) (by assumption) ?_
  rotate_left 1
  · intro w_ hSw; (try dsimp only at hSw); go_simp; all_goals (with_reducible rfl)
  focus try simp only [Act.put, List.setIfInBounds_toArray, List.set_cons_zero, List.set_cons_succ]
  refine wpAnyH_done (by kernel_rfl) ?_ _
  rotate_left 1
  go_wp2
  refine wp_region_held_drew (S := (fun w' => w'.cell? ⟨b, 0, none⟩ = some (.int .i64 p) ∧ w'.cell? ⟨c, 0, none⟩ = some (.int .i64 q))) (by kernel_rfl) ?_ (fun hHeld => ?_)
  · (first | (simp [go_sem, hb, hc, bl, cl]; done) | exact ⟨keepcell (by assumption) (by simp [go_sem, hb, hc, bl, cl]), keepcell (by assumption) (by simp [go_sem, hb, hc, bl, cl])⟩ | exact ⟨keepset (by omega) (keepset (by omega) (keepcell (by assumption) (by simp [go_sem, hb, hc, bl, cl]))), keepset (by omega) (keepset (by omega) (keepcell (by assumption) (by simp [go_sem, hb, hc, bl, cl])))⟩)
  refine wpAnyH_take (i := 0) (oi := { dst := some 9, op := Go.Op.load 2 (Go.Operand.tmp 0), type := 2, pos := "num.go:122", after := #[], guard := none }) (v := ?_) rfl (by kernel_rfl) (by kernel_rfl) (by kernel_rfl) (fun _ _ _ h => h) (Or.inl ⟨by rfl, ?_⟩) (by assumption) ?_
  rotate_left 1
  · intro w_ hSw; (try dsimp only at hSw); go_simp; all_goals (with_reducible rfl)
  focus try simp only [Act.put, List.setIfInBounds_toArray, List.set_cons_zero, List.set_cons_succ]
  refine wpAnyH_take (i := 1) (oi := { dst := some 10, op := Go.Op.binOp Go.BinOp.lss 2 (Go.Operand.tmp 9) (Go.Operand.const (Go.Value.int Go.IntKind.i64 0)) 2, type := 4, pos := "num.go:122", after := #[{ on := 0, ground := Go.Ground.data }], guard := none }) (v := ?_) rfl (by kernel_rfl) (by kernel_rfl) (by kernel_rfl) (fun _ _ _ h => h) (Or.inl ⟨by rfl, ?_⟩) (by assumption) ?_
  rotate_left 1
  · intro w_ hSw; (try dsimp only at hSw); go_simp; all_goals (with_reducible rfl)
  focus try simp only [Act.put, List.setIfInBounds_toArray, List.set_cons_zero, List.set_cons_succ]
  refine wpAnyH_take (i := 2) (oi := { dst := some 11, op := Go.Op.load 2 (Go.Operand.tmp 1), type := 2, pos := "num.go:122", after := #[], guard := none }) (v := ?_) rfl (by kernel_rfl) (by kernel_rfl) (by kernel_rfl) (fun _ _ _ h => h) (Or.inl ⟨by rfl, ?_⟩) (by assumption) ?_
  rotate_left 1
  · intro w_ hSw; (try dsimp only at hSw); go_simp; all_goals (with_reducible rfl)
  focus try simp only [Act.put, List.setIfInBounds_toArray, List.set_cons_zero, List.set_cons_succ]
  refine wpAnyH_take (i := 3) (oi := { dst := some 12, op := Go.Op.binOp Go.BinOp.lss 2 (Go.Operand.tmp 11) (Go.Operand.const (Go.Value.int Go.IntKind.i64 0)) 2, type := 4, pos := "num.go:122", after := #[{ on := 2, ground := Go.Ground.data }], guard := none }) (v := ?_) rfl (by kernel_rfl) (by kernel_rfl) (by kernel_rfl) (fun _ _ _ h => h) (Or.inl ⟨by rfl, ?_⟩) (by assumption) ?_
  rotate_left 1
  · intro w_ hSw; (try dsimp only at hSw); go_simp; all_goals (with_reducible rfl)
  focus try simp only [Act.put, List.setIfInBounds_toArray, List.set_cons_zero, List.set_cons_succ]
  refine wpAnyH_take (i := 4) (oi := { dst := some 13, op := Go.Op.binOp Go.BinOp.neq 4 (Go.Operand.tmp 10) (Go.Operand.tmp 12) 4, type := 4, pos := "num.go:122", after := #[{ on := 1, ground := Go.Ground.data }, { on := 3, ground := Go.Ground.data }], guard := none }) (v := ?_) rfl (by kernel_rfl) (by kernel_rfl) (by kernel_rfl) (fun _ _ _ h => h) (Or.inl ⟨by rfl, ?_⟩) (by assumption) ?_
  rotate_left 1
  · intro w_ hSw; (try dsimp only at hSw); go_simp; all_goals (with_reducible rfl)
  focus try simp only [Act.put, List.setIfInBounds_toArray, List.set_cons_zero, List.set_cons_succ]
  refine wpAnyH_take (i := 5) (oi := { dst := some 14, op := Go.Op.load 2 (Go.Operand.tmp 0), type := 2, pos := "num.go:122", after := #[], guard := none }) (v := ?_) rfl (by kernel_rfl) (by kernel_rfl) (by kernel_rfl) (fun _ _ _ h => h) (Or.inl ⟨by rfl, ?_⟩) (by assumption) ?_
  rotate_left 1
  · intro w_ hSw; (try dsimp only at hSw); go_simp; all_goals (with_reducible rfl)
  focus try simp only [Act.put, List.setIfInBounds_toArray, List.set_cons_zero, List.set_cons_succ]
  refine wpAnyH_take (i := 7) (oi := { dst := some 16, op := Go.Op.move (Go.Operand.tmp 3), type := 54, pos := "num.go:122", after := #[], guard := none }) (v := ?_) rfl (by kernel_rfl) (by kernel_rfl) (by kernel_rfl) (fun _ _ _ h => h) (Or.inl ⟨by rfl, ?_⟩) (by assumption) ?_
  rotate_left 1
  · intro w_ hSw; (try dsimp only at hSw); go_simp; all_goals (with_reducible rfl)
  focus try simp only [Act.put, List.setIfInBounds_toArray, List.set_cons_zero, List.set_cons_succ]
  refine wpAnyH_take (i := 10) (oi := { dst := some 19, op := Go.Op.load 2 (Go.Operand.tmp 1), type := 2, pos := "num.go:122", after := #[], guard := none }) (v := ?_) rfl (by kernel_rfl) (by kernel_rfl) (by kernel_rfl) (fun _ _ _ h => h) (Or.inl ⟨by rfl, ?_⟩) (by assumption) ?_
  rotate_left 1
  · intro w_ hSw; (try dsimp only at hSw); go_simp; all_goals (with_reducible rfl)
  focus try simp only [Act.put, List.setIfInBounds_toArray, List.set_cons_zero, List.set_cons_succ]
  refine wpAnyH_take (i := 12) (oi := { dst := some 21, op := Go.Op.move (Go.Operand.tmp 3), type := 54, pos := "num.go:122", after := #[], guard := none }) (v := ?_) rfl (by kernel_rfl) (by kernel_rfl) (by kernel_rfl) (fun _ _ _ h => h) (Or.inl ⟨by rfl, ?_⟩) (by assumption) ?_
  rotate_left 1
  · intro w_ hSw; (try dsimp only at hSw); go_simp; all_goals (with_reducible rfl)
  focus try simp only [Act.put, List.setIfInBounds_toArray, List.set_cons_zero, List.set_cons_succ]
  refine wpAnyH_ready (rs := [6]) (by kernel_rfl) (by simp) ?_
  refine AllReadyH.cons (o := { dst := some 15, op := Go.Op.call { callee := Go.Callee.value (Go.Operand.func 45), args := #[Go.Operand.tmp 14], argTypes := #[2] }, type := 54, pos := "num.go:122", after := #[{ on := 5, ground := Go.Ground.data }], guard := none }) rfl (fun K hK => ?_) (AllReadyH.nil)
  focus go_simp
  focus (refine (s1.out _).mono ?_; rintro e w1 ⟨rfl, rfl⟩)
  focus try simp only []
  refine hK.out _ _ ?_ (fun hHeld => ?_)
  · (first | (simp [go_sem, hb, hc, bl, cl]; done) | exact ⟨keepcell (by assumption) (by simp [go_sem, hb, hc, bl, cl]), keepcell (by assumption) (by simp [go_sem, hb, hc, bl, cl])⟩ | exact ⟨keepset (by omega) (keepset (by omega) (keepcell (by assumption) (by simp [go_sem, hb, hc, bl, cl]))), keepset (by omega) (keepset (by omega) (keepcell (by assumption) (by simp [go_sem, hb, hc, bl, cl])))⟩)
  focus clear hK K
  focus try simp only [Act.put, List.setIfInBounds_toArray, List.set_cons_zero, List.set_cons_succ]
  refine wpAnyH_take (i := 8) (oi := { dst := some 17, op := Go.Op.binOp Go.BinOp.quo 54 (Go.Operand.tmp 15) (Go.Operand.tmp 16) 54, type := 54, pos := "num.go:122", after := #[{ on := 6, ground := Go.Ground.data }, { on := 7, ground := Go.Ground.data }], guard := none }) (v := ?_) rfl (by kernel_rfl) (by kernel_rfl) (by kernel_rfl) (fun _ _ _ h => h) (Or.inl ⟨by rfl, ?_⟩) (by assumption) ?_
  rotate_left 1
  · intro w_ hSw; (try dsimp only at hSw); go_simp; all_goals (with_reducible rfl)
  focus try simp only [Act.put, List.setIfInBounds_toArray, List.set_cons_zero, List.set_cons_succ]
  refine wpAnyH_take (i := 9) (oi := { dst := some 18, op := Go.Op.build 59 #[(0, Go.Operand.tmp 13), (1, Go.Operand.const (Go.Value.int Go.IntKind.u64 0)), (2, Go.Operand.tmp 17)], type := 59, pos := "num.go:122", after := #[{ on := 4, ground := Go.Ground.data }, { on := 8, ground := Go.Ground.data }], guard := none }) (v := ?_) rfl (by kernel_rfl) (by kernel_rfl) (by kernel_rfl) (fun _ _ _ h => h) (Or.inl ⟨by rfl, ?_⟩) (by assumption) ?_
  rotate_left 1
  · intro w_ hSw; (try dsimp only at hSw); go_simp; all_goals (with_reducible rfl)
  focus try simp only [Act.put, List.setIfInBounds_toArray, List.set_cons_zero, List.set_cons_succ]
  refine wpAnyH_ready (rs := [11]) (by kernel_rfl) (by simp) ?_
  refine AllReadyH.cons (o := { dst := some 20, op := Go.Op.call { callee := Go.Callee.value (Go.Operand.func 45), args := #[Go.Operand.tmp 19], argTypes := #[2] }, type := 54, pos := "num.go:122", after := #[{ on := 10, ground := Go.Ground.data }, { on := 6, ground := Go.Ground.chain }], guard := none }) rfl (fun K hK => ?_) (AllReadyH.nil)
  focus go_simp
  focus (refine (s2.out _).mono ?_; rintro e w1 ⟨rfl, rfl⟩)
  focus try simp only []
  refine hK.out _ _ ?_ (fun hHeld => ?_)
  · (first | (simp [go_sem, hb, hc, bl, cl]; done) | exact ⟨keepcell (by assumption) (by simp [go_sem, hb, hc, bl, cl]), keepcell (by assumption) (by simp [go_sem, hb, hc, bl, cl])⟩ | exact ⟨keepset (by omega) (keepset (by omega) (keepcell (by assumption) (by simp [go_sem, hb, hc, bl, cl]))), keepset (by omega) (keepset (by omega) (keepcell (by assumption) (by simp [go_sem, hb, hc, bl, cl])))⟩)
  focus clear hK K
  focus try simp only [Act.put, List.setIfInBounds_toArray, List.set_cons_zero, List.set_cons_succ]
  refine wpAnyH_take (i := 13) (oi := { dst := some 22, op := Go.Op.binOp Go.BinOp.quo 54 (Go.Operand.tmp 20) (Go.Operand.tmp 21) 54, type := 54, pos := "num.go:122", after := #[{ on := 11, ground := Go.Ground.data }, { on := 12, ground := Go.Ground.data }], guard := none }) (v := ?_) rfl (by kernel_rfl) (by kernel_rfl) (by kernel_rfl) (fun _ _ _ h => h) (Or.inl ⟨by rfl, ?_⟩) (by assumption) ?_
  rotate_left 1
  · intro w_ hSw; (try dsimp only at hSw); go_simp; all_goals (with_reducible rfl)
  focus try simp only [Act.put, List.setIfInBounds_toArray, List.set_cons_zero, List.set_cons_succ]
  refine wpAnyH_take (i := 14) (oi := { dst := some 23, op := Go.Op.build 59 #[(2, Go.Operand.tmp 22)], type := 59, pos := "num.go:122", after := #[{ on := 13, ground := Go.Ground.data }], guard := none }) (v := ?_) rfl (by kernel_rfl) (by kernel_rfl) (by kernel_rfl) (fun _ _ _ h => h) (Or.inl ⟨by rfl, ?_⟩) (by assumption) ?_
  rotate_left 1
  · intro w_ hSw; (try dsimp only at hSw); go_simp; all_goals (with_reducible rfl)
  focus try simp only [Act.put, List.setIfInBounds_toArray, List.set_cons_zero, List.set_cons_succ]
  refine wpAnyH_ready (rs := [15]) (by kernel_rfl) (by simp) ?_
  refine AllReadyH.cons (o := { dst := some 24, op := Go.Op.call { callee := Go.Callee.value (Go.Operand.func 46), args := #[Go.Operand.tmp 18, Go.Operand.tmp 23], argTypes := #[59, 59] }, type := 24, pos := "num.go:122", after := #[{ on := 9, ground := Go.Ground.data }, { on := 14, ground := Go.Ground.data }, { on := 11, ground := Go.Ground.chain }], guard := none }) rfl (fun K hK => ?_) (AllReadyH.nil)
  focus go_simp
  · (refine (rr.out _).mono ?_; rintro e w1 ⟨rfl, hb1⟩; exact ⟨rfl, rfl, Below.trans (b := (w.alloc (Obj.cells #[Value.int IntKind.i64 0, Value.int IntKind.i64 0] 24)).drewN (1 + n + 1)) (by repeat (first | exact Below.refl _ _ | with_reducible assumption | refine Below.alloc ?_ (by first | exact Nat.le_refl _ | (simp; done) | (simp; omega) | omega) _ | refine Below.setCell ?_ (by first | exact Nat.le_refl _ | (simp; done) | (simp; omega) | omega) _ | refine Below.drew ?_ | refine bdrewN ?_ _)) (hb1.mono (by first | exact Nat.le_refl _ | (simp; done) | (simp; omega) | omega))⟩)

end Go.Proofs.Ytnggikhpnophgaa.Num
