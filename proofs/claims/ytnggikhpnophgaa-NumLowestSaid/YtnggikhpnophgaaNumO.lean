/- The closure of num's Times. -/
import Derived.Test.YtnggikhpnophgaaNumN
import Derived.Test.YtnggikhpnophgaaNumU
namespace Go.Proofs.Ytnggikhpnophgaa.Num
open Go.RowKit
set_option linter.unusedVariables false
set_option linter.unusedSimpArgs false

/-- A product of sizes, with a sign. -/
theorem wv_sizes {a b : Int} (c : Bool) (ha : 0 ≤ a) (ha2 : a ≤ 9223372036854775808) (hb : 0 ≤ b) (hb2 : b ≤ 9223372036854775808) :
    WV (if c = true then -(a * b) else a * b) c (a * b / 18446744073709551616) (a * b % 18446744073709551616) := by
  have hm := mul_bound ha ha2 hb hb2
  refine ⟨by omega, by omega, by omega, by omega, ?_⟩
  cases c <;> simp <;> omega

theorem ediv_bound {a g m : Int} (ha : 0 ≤ a) (ha2 : a ≤ m) (hg : 0 < g) : 0 ≤ a / g ∧ a / g ≤ m := by
  have := Int.ediv_nonneg ha (Int.le_of_lt hg)
  have := Int.ediv_le_self g ha
  omega

set_option maxHeartbeats 4000000 in
theorem times1_ok (p q r s g h pg rh qh sg' : Int) (ba bb : Nat) (w : World) (hp : In64 p) (hq : In64 q) (hr : In64 r) (hs : In64 s) (q0 : 0 < q) (s0 : 0 < s)
    (ca : w.cell? ⟨ba, 0, none⟩ = some (.int .i64 p)) (ca1 : w.cell? ⟨ba, 1, none⟩ = some (.int .i64 q)) (cb : w.cell? ⟨bb, 0, none⟩ = some (.int .i64 r)) (cb1 : w.cell? ⟨bb, 1, none⟩ = some (.int .i64 s))
    (hg : (Int.gcd p s : Int) = g) (hh : (Int.gcd r q : Int) = h) (hpg : sz p / g = pg) (hrh : sz r / h = rh) (hqh : q / h = qh) (hsg : s / g = sg')
    (X : Int) (hX : (if sg p r = true then -(pg * rh) else pg * rh) = X) (hfit : In64 X ∧ In64 (qh * sg')) :
    Calls Try.prog 62 #[.pointer (some ⟨ba, 0, none⟩), .pointer (some ⟨bb, 0, none⟩)] w fun e w' => e = .returned (RV X (qh * sg')) ∧ Below w.heap.size w w' := by
  have sp := Lib.hid (fun W0 => size_any p W0 hp.1 hp.2)
  have sq := Lib.hid (fun W0 => size_any q W0 hq.1 hq.2)
  have sr := Lib.hid (fun W0 => size_any r W0 hr.1 hr.2)
  have ss := Lib.hid (fun W0 => size_any s W0 hs.1 hs.2)
  have zq : sz q = q := by unfold sz; rw [if_neg (by omega)]
  have zs : sz s = s := by unfold sz; rw [if_neg (by omega)]
  rw [zq] at sq
  rw [zs] at ss
  have a1 := sz_nonneg p
  have a2 := sz_le hp.1 hp.2
  have b1 := sz_nonneg r
  have b2 := sz_le hr.1 hr.2
  have qlt := hq.2
  have slt := hs.2
  have G1 := Lib.hid (fun W0 => gcd_any (sz p) s W0 a1 (by omega) (by omega) (by omega))
  have G2 := Lib.hid (fun W0 => gcd_any (sz r) q W0 b1 (by omega) (by omega) (by omega))
  rw [show Int.gcd (sz p) s = Int.gcd p s by rw [← gcd_sz p s, zs], hg] at G1
  rw [show Int.gcd (sz r) q = Int.gcd r q by rw [← gcd_sz r q, zq], hh] at G2
  have g0 : 0 < g := by rw [← hg]; exact gcd_pos (by omega)
  have h0 : 0 < h := by rw [← hh]; exact gcd_pos (by omega)
  have g1 : g ≤ s := by
    rw [← hg]
    have := Int.gcd_le_natAbs_right (a := p) (b := s) (by omega)
    omega
  have h1 : h ≤ q := by
    rw [← hh]
    have := Int.gcd_le_natAbs_right (a := r) (b := q) (by omega)
    omega
  have gn : ¬ g = 0 := by omega
  have hn : ¬ h = 0 := by omega
  have e1 : IntKind.u64.wrap ((sz p).tdiv g) = pg := by rw [div_spell a1 (by omega) g0, hpg]
  have e2 : IntKind.u64.wrap ((sz r).tdiv h) = rh := by rw [div_spell b1 (by omega) h0, hrh]
  have bp := ediv_bound a1 a2 g0
  have br := ediv_bound b1 b2 h0
  rw [hpg] at bp
  rw [hrh] at br
  have bq := ediv_bound (a := q) (by omega) (Int.le_refl _) h0
  have bs := ediv_bound (a := s) (by omega) (Int.le_refl _) g0
  rw [hqh] at bq
  rw [hsg] at bs
  have i1 : In64 qh := ⟨by omega, by omega⟩
  have i2 : In64 sg' := ⟨by omega, by omega⟩
  have wg' : IntKind.i64.wrap g = g := wrapi_in ⟨by omega, by omega⟩
  have wh' : IntKind.i64.wrap h = h := wrapi_in ⟨by omega, by omega⟩
  have e3 : q.tdiv h = qh := by rw [Int.tdiv_eq_ediv_of_nonneg (by omega), hqh]
  have e4 : s.tdiv g = sg' := by rw [Int.tdiv_eq_ediv_of_nonneg (by omega), hsg]
  have e5 := wrapi_in i1
  have e6 := wrapi_in i2
  have MU := Lib.hid (fun W0 => mul64_any pg rh W0 bp.1 (by omega) br.1 (by omega))
  have PR := Lib.hid (fun W0 => product_any qh sg' W0 i1.1 i1.2 i2.1 i2.2)
  have RR := Lib.hid (fun W0 => rat_ok (hX ▸ wv_sizes (sg p r) bp.1 bp.2 br.1 br.2) (wv_mul i1 i2) hfit.1 hfit.2 W0)
  have hsgn := sg_spell p r
  have hz : w.heap.size < w.heap.size + 1 := by omega
  have la := cell_lt ca
  have lb := cell_lt cb
  clear hp hq hr hs q0 s0 hg hh hpg hrh hqh hsg hfit hX zq zs a1 a2 b1 b2 qlt slt g0 h0 g1 h1 bp br bq bs i1 i2
  generalize pg * rh / 18446744073709551616 = hi at *
  generalize pg * rh % 18446744073709551616 = lo at *
  go_enter Try.func62, Try.ntmps62
  go_wp2
  refine wp_region_held_drew (S := (fun w' => w'.cell? ⟨ba, 0, none⟩ = some (.int .i64 p) ∧ w'.cell? ⟨ba, 1, none⟩ = some (.int .i64 q) ∧ w'.cell? ⟨bb, 0, none⟩ = some (.int .i64 r) ∧ w'.cell? ⟨bb, 1, none⟩ = some (.int .i64 s))) (by kernel_rfl) ?_ (fun hHeld => ?_)
  · exact ⟨keepcell (W := w) (by repeat (first | exact Below.refl _ _ | with_reducible assumption | refine Below.alloc ?_ (by first | exact Nat.le_refl _ | (simp; done) | (simp; omega) | omega) _ | refine Below.setCell ?_ (by first | exact Nat.le_refl _ | (simp; done) | (simp; omega) | omega) _ | refine Below.drew ?_ | refine bdrewN ?_ _)) ca, keepcell (W := w) (by repeat (first | exact Below.refl _ _ | with_reducible assumption | refine Below.alloc ?_ (by first | exact Nat.le_refl _ | (simp; done) | (simp; omega) | omega) _ | refine Below.setCell ?_ (by first | exact Nat.le_refl _ | (simp; done) | (simp; omega) | omega) _ | refine Below.drew ?_ | refine bdrewN ?_ _)) ca1, keepcell (W := w) (by repeat (first | exact Below.refl _ _ | with_reducible assumption | refine Below.alloc ?_ (by first | exact Nat.le_refl _ | (simp; done) | (simp; omega) | omega) _ | refine Below.setCell ?_ (by first | exact Nat.le_refl _ | (simp; done) | (simp; omega) | omega) _ | refine Below.drew ?_ | refine bdrewN ?_ _)) cb, keepcell (W := w) (by repeat (first | exact Below.refl _ _ | with_reducible assumption | refine Below.alloc ?_ (by first | exact Nat.le_refl _ | (simp; done) | (simp; omega) | omega) _ | refine Below.setCell ?_ (by first | exact Nat.le_refl _ | (simp; done) | (simp; omega) | omega) _ | refine Below.drew ?_ | refine bdrewN ?_ _)) cb1⟩
  refine wpAnyH_take (i := 0) (oi := { dst := some 7, op := Go.Op.fieldAddr 24 (Go.Operand.tmp 0) 0, type := 0, pos := "num.go:181", after := #[], guard := none }) (v := ?_) rfl (by kernel_rfl) (by kernel_rfl) (by kernel_rfl) (fun _ _ _ h => h) (Or.inl ⟨by rfl, ?_⟩) (by assumption) ?_
  rotate_left 1
  · intro w_ hSw; (try dsimp only at hSw); go_simp; all_goals (with_reducible rfl)
  focus try simp only [Act.put, List.setIfInBounds_toArray, List.set_cons_zero, List.set_cons_succ]
  refine wpAnyH_take (i := 1) (oi := { dst := some 8, op := Go.Op.load 2 (Go.Operand.tmp 7), type := 2, pos := "num.go:181", after := #[{ on := 0, ground := Go.Ground.data }], guard := none }) (v := ?_) rfl (by kernel_rfl) (by kernel_rfl) (by kernel_rfl) (fun _ _ _ h => h) (Or.inl ⟨by rfl, ?_⟩) (by assumption) ?_
  rotate_left 1
  · intro w_ hSw; (try dsimp only at hSw); go_simp; all_goals (with_reducible rfl)
  focus try simp only [Act.put, List.setIfInBounds_toArray, List.set_cons_zero, List.set_cons_succ]
  refine wpAnyH_take (i := 3) (oi := { dst := some 10, op := Go.Op.fieldAddr 24 (Go.Operand.tmp 1) 1, type := 0, pos := "num.go:181", after := #[], guard := none }) (v := ?_) rfl (by kernel_rfl) (by kernel_rfl) (by kernel_rfl) (fun _ _ _ h => h) (Or.inl ⟨by rfl, ?_⟩) (by assumption) ?_
  rotate_left 1
  · intro w_ hSw; (try dsimp only at hSw); go_simp; all_goals (with_reducible rfl)
  focus try simp only [Act.put, List.setIfInBounds_toArray, List.set_cons_zero, List.set_cons_succ]
  refine wpAnyH_take (i := 4) (oi := { dst := some 11, op := Go.Op.load 2 (Go.Operand.tmp 10), type := 2, pos := "num.go:181", after := #[{ on := 3, ground := Go.Ground.data }], guard := none }) (v := ?_) rfl (by kernel_rfl) (by kernel_rfl) (by kernel_rfl) (fun _ _ _ h => h) (Or.inl ⟨by rfl, ?_⟩) (by assumption) ?_
  rotate_left 1
  · intro w_ hSw; (try dsimp only at hSw); go_simp; all_goals (with_reducible rfl)
  focus try simp only [Act.put, List.setIfInBounds_toArray, List.set_cons_zero, List.set_cons_succ]
  refine wpAnyH_take (i := 7) (oi := { dst := some 14, op := Go.Op.fieldAddr 24 (Go.Operand.tmp 1) 0, type := 0, pos := "num.go:181", after := #[], guard := none }) (v := ?_) rfl (by kernel_rfl) (by kernel_rfl) (by kernel_rfl) (fun _ _ _ h => h) (Or.inl ⟨by rfl, ?_⟩) (by assumption) ?_
  rotate_left 1
  · intro w_ hSw; (try dsimp only at hSw); go_simp; all_goals (with_reducible rfl)
  focus try simp only [Act.put, List.setIfInBounds_toArray, List.set_cons_zero, List.set_cons_succ]
  refine wpAnyH_take (i := 8) (oi := { dst := some 15, op := Go.Op.load 2 (Go.Operand.tmp 14), type := 2, pos := "num.go:181", after := #[{ on := 7, ground := Go.Ground.data }], guard := none }) (v := ?_) rfl (by kernel_rfl) (by kernel_rfl) (by kernel_rfl) (fun _ _ _ h => h) (Or.inl ⟨by rfl, ?_⟩) (by assumption) ?_
  rotate_left 1
  · intro w_ hSw; (try dsimp only at hSw); go_simp; all_goals (with_reducible rfl)
  focus try simp only [Act.put, List.setIfInBounds_toArray, List.set_cons_zero, List.set_cons_succ]
  refine wpAnyH_take (i := 10) (oi := { dst := some 17, op := Go.Op.fieldAddr 24 (Go.Operand.tmp 0) 1, type := 0, pos := "num.go:181", after := #[], guard := none }) (v := ?_) rfl (by kernel_rfl) (by kernel_rfl) (by kernel_rfl) (fun _ _ _ h => h) (Or.inl ⟨by rfl, ?_⟩) (by assumption) ?_
  rotate_left 1
  · intro w_ hSw; (try dsimp only at hSw); go_simp; all_goals (with_reducible rfl)
  focus try simp only [Act.put, List.setIfInBounds_toArray, List.set_cons_zero, List.set_cons_succ]
  refine wpAnyH_take (i := 11) (oi := { dst := some 18, op := Go.Op.load 2 (Go.Operand.tmp 17), type := 2, pos := "num.go:181", after := #[{ on := 10, ground := Go.Ground.data }], guard := none }) (v := ?_) rfl (by kernel_rfl) (by kernel_rfl) (by kernel_rfl) (fun _ _ _ h => h) (Or.inl ⟨by rfl, ?_⟩) (by assumption) ?_
  rotate_left 1
  · intro w_ hSw; (try dsimp only at hSw); go_simp; all_goals (with_reducible rfl)
  focus try simp only [Act.put, List.setIfInBounds_toArray, List.set_cons_zero, List.set_cons_succ]
  refine wpAnyH_ready (rs := [2]) (by kernel_rfl) (by simp) ?_
  refine AllReadyH.cons (o := { dst := some 9, op := Go.Op.call { callee := Go.Callee.value (Go.Operand.func 45), args := #[Go.Operand.tmp 8], argTypes := #[2] }, type := 54, pos := "num.go:181", after := #[{ on := 1, ground := Go.Ground.data }], guard := none }) rfl (fun K hK => ?_) (AllReadyH.nil)
  focus go_simp
  focus (refine (sp.out _).mono ?_; rintro e w1 ⟨rfl, rfl⟩)
  focus try simp only []
  refine hK.out _ _ ?_ (fun hHeld => ?_)
  · exact ⟨keepcell (W := w) (by repeat (first | exact Below.refl _ _ | with_reducible assumption | refine Below.alloc ?_ (by first | exact Nat.le_refl _ | (simp; done) | (simp; omega) | omega) _ | refine Below.setCell ?_ (by first | exact Nat.le_refl _ | (simp; done) | (simp; omega) | omega) _ | refine Below.drew ?_ | refine bdrewN ?_ _)) ca, keepcell (W := w) (by repeat (first | exact Below.refl _ _ | with_reducible assumption | refine Below.alloc ?_ (by first | exact Nat.le_refl _ | (simp; done) | (simp; omega) | omega) _ | refine Below.setCell ?_ (by first | exact Nat.le_refl _ | (simp; done) | (simp; omega) | omega) _ | refine Below.drew ?_ | refine bdrewN ?_ _)) ca1, keepcell (W := w) (by repeat (first | exact Below.refl _ _ | with_reducible assumption | refine Below.alloc ?_ (by first | exact Nat.le_refl _ | (simp; done) | (simp; omega) | omega) _ | refine Below.setCell ?_ (by first | exact Nat.le_refl _ | (simp; done) | (simp; omega) | omega) _ | refine Below.drew ?_ | refine bdrewN ?_ _)) cb, keepcell (W := w) (by repeat (first | exact Below.refl _ _ | with_reducible assumption | refine Below.alloc ?_ (by first | exact Nat.le_refl _ | (simp; done) | (simp; omega) | omega) _ | refine Below.setCell ?_ (by first | exact Nat.le_refl _ | (simp; done) | (simp; omega) | omega) _ | refine Below.drew ?_ | refine bdrewN ?_ _)) cb1⟩
  focus clear hK K
  focus try simp only [Act.put, List.setIfInBounds_toArray, List.set_cons_zero, List.set_cons_succ]
  refine wpAnyH_ready (rs := [5]) (by kernel_rfl) (by simp) ?_
  refine AllReadyH.cons (o := { dst := some 12, op := Go.Op.call { callee := Go.Callee.value (Go.Operand.func 45), args := #[Go.Operand.tmp 11], argTypes := #[2] }, type := 54, pos := "num.go:181", after := #[{ on := 4, ground := Go.Ground.data }, { on := 2, ground := Go.Ground.chain }], guard := none }) rfl (fun K hK => ?_) (AllReadyH.nil)
  focus go_simp
  focus (refine (ss.out _).mono ?_; rintro e w1 ⟨rfl, rfl⟩)
  focus try simp only []
  refine hK.out _ _ ?_ (fun hHeld => ?_)
  · exact ⟨keepcell (W := w) (by repeat (first | exact Below.refl _ _ | with_reducible assumption | refine Below.alloc ?_ (by first | exact Nat.le_refl _ | (simp; done) | (simp; omega) | omega) _ | refine Below.setCell ?_ (by first | exact Nat.le_refl _ | (simp; done) | (simp; omega) | omega) _ | refine Below.drew ?_ | refine bdrewN ?_ _)) ca, keepcell (W := w) (by repeat (first | exact Below.refl _ _ | with_reducible assumption | refine Below.alloc ?_ (by first | exact Nat.le_refl _ | (simp; done) | (simp; omega) | omega) _ | refine Below.setCell ?_ (by first | exact Nat.le_refl _ | (simp; done) | (simp; omega) | omega) _ | refine Below.drew ?_ | refine bdrewN ?_ _)) ca1, keepcell (W := w) (by repeat (first | exact Below.refl _ _ | with_reducible assumption | refine Below.alloc ?_ (by first | exact Nat.le_refl _ | (simp; done) | (simp; omega) | omega) _ | refine Below.setCell ?_ (by first | exact Nat.le_refl _ | (simp; done) | (simp; omega) | omega) _ | refine Below.drew ?_ | refine bdrewN ?_ _)) cb, keepcell (W := w) (by repeat (first | exact Below.refl _ _ | with_reducible assumption | refine Below.alloc ?_ (by first | exact Nat.le_refl _ | (simp; done) | (simp; omega) | omega) _ | refine Below.setCell ?_ (by first | exact Nat.le_refl _ | (simp; done) | (simp; omega) | omega) _ | refine Below.drew ?_ | refine bdrewN ?_ _)) cb1⟩
  focus clear hK K
  focus try simp only [Act.put, List.setIfInBounds_toArray, List.set_cons_zero, List.set_cons_succ]
  refine wpAnyH_ready (rs := [6]) (by kernel_rfl) (by simp) ?_
  refine AllReadyH.cons (o := { dst := some 13, op := Go.Op.call { callee := Go.Callee.value (Go.Operand.func 44), args := #[Go.Operand.tmp 9, Go.Operand.tmp 12], argTypes := #[54, 54] }, type := 54, pos := "num.go:181", after := #[{ on := 2, ground := Go.Ground.data }, { on := 5, ground := Go.Ground.data }, { on := 5, ground := Go.Ground.chain }], guard := none }) rfl (fun K hK => ?_) (AllReadyH.nil)
  focus go_simp
  focus (refine (G1.out _).mono ?_; rintro e w1 ⟨rfl, n1, rfl⟩)
  focus try simp only []
  refine hK.out _ _ ?_ (fun hHeld => ?_)
  · exact ⟨keepcell (W := w) (by repeat (first | exact Below.refl _ _ | with_reducible assumption | refine Below.alloc ?_ (by first | exact Nat.le_refl _ | (simp; done) | (simp; omega) | omega) _ | refine Below.setCell ?_ (by first | exact Nat.le_refl _ | (simp; done) | (simp; omega) | omega) _ | refine Below.drew ?_ | refine bdrewN ?_ _)) ca, keepcell (W := w) (by repeat (first | exact Below.refl _ _ | with_reducible assumption | refine Below.alloc ?_ (by first | exact Nat.le_refl _ | (simp; done) | (simp; omega) | omega) _ | refine Below.setCell ?_ (by first | exact Nat.le_refl _ | (simp; done) | (simp; omega) | omega) _ | refine Below.drew ?_ | refine bdrewN ?_ _)) ca1, keepcell (W := w) (by repeat (first | exact Below.refl _ _ | with_reducible assumption | refine Below.alloc ?_ (by first | exact Nat.le_refl _ | (simp; done) | (simp; omega) | omega) _ | refine Below.setCell ?_ (by first | exact Nat.le_refl _ | (simp; done) | (simp; omega) | omega) _ | refine Below.drew ?_ | refine bdrewN ?_ _)) cb, keepcell (W := w) (by repeat (first | exact Below.refl _ _ | with_reducible assumption | refine Below.alloc ?_ (by first | exact Nat.le_refl _ | (simp; done) | (simp; omega) | omega) _ | refine Below.setCell ?_ (by first | exact Nat.le_refl _ | (simp; done) | (simp; omega) | omega) _ | refine Below.drew ?_ | refine bdrewN ?_ _)) cb1⟩
  focus clear hK K
  focus try simp only [Act.put, List.setIfInBounds_toArray, List.set_cons_zero, List.set_cons_succ]
  refine wpAnyH_ready (rs := [9]) (by kernel_rfl) (by simp) ?_
  refine AllReadyH.cons (o := { dst := some 16, op := Go.Op.call { callee := Go.Callee.value (Go.Operand.func 45), args := #[Go.Operand.tmp 15], argTypes := #[2] }, type := 54, pos := "num.go:181", after := #[{ on := 8, ground := Go.Ground.data }, { on := 6, ground := Go.Ground.chain }], guard := none }) rfl (fun K hK => ?_) (AllReadyH.nil)
  focus go_simp
  focus (refine (sr.out _).mono ?_; rintro e w1 ⟨rfl, rfl⟩)
  focus try simp only []
  refine hK.out _ _ ?_ (fun hHeld => ?_)
  · exact ⟨keepcell (W := w) (by repeat (first | exact Below.refl _ _ | with_reducible assumption | refine Below.alloc ?_ (by first | exact Nat.le_refl _ | (simp; done) | (simp; omega) | omega) _ | refine Below.setCell ?_ (by first | exact Nat.le_refl _ | (simp; done) | (simp; omega) | omega) _ | refine Below.drew ?_ | refine bdrewN ?_ _)) ca, keepcell (W := w) (by repeat (first | exact Below.refl _ _ | with_reducible assumption | refine Below.alloc ?_ (by first | exact Nat.le_refl _ | (simp; done) | (simp; omega) | omega) _ | refine Below.setCell ?_ (by first | exact Nat.le_refl _ | (simp; done) | (simp; omega) | omega) _ | refine Below.drew ?_ | refine bdrewN ?_ _)) ca1, keepcell (W := w) (by repeat (first | exact Below.refl _ _ | with_reducible assumption | refine Below.alloc ?_ (by first | exact Nat.le_refl _ | (simp; done) | (simp; omega) | omega) _ | refine Below.setCell ?_ (by first | exact Nat.le_refl _ | (simp; done) | (simp; omega) | omega) _ | refine Below.drew ?_ | refine bdrewN ?_ _)) cb, keepcell (W := w) (by repeat (first | exact Below.refl _ _ | with_reducible assumption | refine Below.alloc ?_ (by first | exact Nat.le_refl _ | (simp; done) | (simp; omega) | omega) _ | refine Below.setCell ?_ (by first | exact Nat.le_refl _ | (simp; done) | (simp; omega) | omega) _ | refine Below.drew ?_ | refine bdrewN ?_ _)) cb1⟩
  focus clear hK K
  focus try simp only [Act.put, List.setIfInBounds_toArray, List.set_cons_zero, List.set_cons_succ]
  refine wpAnyH_ready (rs := [12]) (by kernel_rfl) (by simp) ?_
  refine AllReadyH.cons (o := { dst := some 19, op := Go.Op.call { callee := Go.Callee.value (Go.Operand.func 45), args := #[Go.Operand.tmp 18], argTypes := #[2] }, type := 54, pos := "num.go:181", after := #[{ on := 11, ground := Go.Ground.data }, { on := 9, ground := Go.Ground.chain }], guard := none }) rfl (fun K hK => ?_) (AllReadyH.nil)
  focus go_simp
  focus (refine (sq.out _).mono ?_; rintro e w1 ⟨rfl, rfl⟩)
  focus try simp only []
  refine hK.out _ _ ?_ (fun hHeld => ?_)
  · exact ⟨keepcell (W := w) (by repeat (first | exact Below.refl _ _ | with_reducible assumption | refine Below.alloc ?_ (by first | exact Nat.le_refl _ | (simp; done) | (simp; omega) | omega) _ | refine Below.setCell ?_ (by first | exact Nat.le_refl _ | (simp; done) | (simp; omega) | omega) _ | refine Below.drew ?_ | refine bdrewN ?_ _)) ca, keepcell (W := w) (by repeat (first | exact Below.refl _ _ | with_reducible assumption | refine Below.alloc ?_ (by first | exact Nat.le_refl _ | (simp; done) | (simp; omega) | omega) _ | refine Below.setCell ?_ (by first | exact Nat.le_refl _ | (simp; done) | (simp; omega) | omega) _ | refine Below.drew ?_ | refine bdrewN ?_ _)) ca1, keepcell (W := w) (by repeat (first | exact Below.refl _ _ | with_reducible assumption | refine Below.alloc ?_ (by first | exact Nat.le_refl _ | (simp; done) | (simp; omega) | omega) _ | refine Below.setCell ?_ (by first | exact Nat.le_refl _ | (simp; done) | (simp; omega) | omega) _ | refine Below.drew ?_ | refine bdrewN ?_ _)) cb, keepcell (W := w) (by repeat (first | exact Below.refl _ _ | with_reducible assumption | refine Below.alloc ?_ (by first | exact Nat.le_refl _ | (simp; done) | (simp; omega) | omega) _ | refine Below.setCell ?_ (by first | exact Nat.le_refl _ | (simp; done) | (simp; omega) | omega) _ | refine Below.drew ?_ | refine bdrewN ?_ _)) cb1⟩
  focus clear hK K
  focus try simp only [Act.put, List.setIfInBounds_toArray, List.set_cons_zero, List.set_cons_succ]
  refine wpAnyH_ready (rs := [13]) (by kernel_rfl) (by simp) ?_
  refine AllReadyH.cons (o := { dst := some 20, op := Go.Op.call { callee := Go.Callee.value (Go.Operand.func 44), args := #[Go.Operand.tmp 16, Go.Operand.tmp 19], argTypes := #[54, 54] }, type := 54, pos := "num.go:181", after := #[{ on := 9, ground := Go.Ground.data }, { on := 12, ground := Go.Ground.data }, { on := 12, ground := Go.Ground.chain }], guard := none }) rfl (fun K hK => ?_) (AllReadyH.nil)
  focus go_simp
  focus (refine (G2.out _).mono ?_; rintro e w1 ⟨rfl, n2, rfl⟩)
  focus try simp only []
  refine hK.out _ _ ?_ (fun hHeld => ?_)
  · exact ⟨keepcell (W := w) (by repeat (first | exact Below.refl _ _ | with_reducible assumption | refine Below.alloc ?_ (by first | exact Nat.le_refl _ | (simp; done) | (simp; omega) | omega) _ | refine Below.setCell ?_ (by first | exact Nat.le_refl _ | (simp; done) | (simp; omega) | omega) _ | refine Below.drew ?_ | refine bdrewN ?_ _)) ca, keepcell (W := w) (by repeat (first | exact Below.refl _ _ | with_reducible assumption | refine Below.alloc ?_ (by first | exact Nat.le_refl _ | (simp; done) | (simp; omega) | omega) _ | refine Below.setCell ?_ (by first | exact Nat.le_refl _ | (simp; done) | (simp; omega) | omega) _ | refine Below.drew ?_ | refine bdrewN ?_ _)) ca1, keepcell (W := w) (by repeat (first | exact Below.refl _ _ | with_reducible assumption | refine Below.alloc ?_ (by first | exact Nat.le_refl _ | (simp; done) | (simp; omega) | omega) _ | refine Below.setCell ?_ (by first | exact Nat.le_refl _ | (simp; done) | (simp; omega) | omega) _ | refine Below.drew ?_ | refine bdrewN ?_ _)) cb, keepcell (W := w) (by repeat (first | exact Below.refl _ _ | with_reducible assumption | refine Below.alloc ?_ (by first | exact Nat.le_refl _ | (simp; done) | (simp; omega) | omega) _ | refine Below.setCell ?_ (by first | exact Nat.le_refl _ | (simp; done) | (simp; omega) | omega) _ | refine Below.drew ?_ | refine bdrewN ?_ _)) cb1⟩
  focus clear hK K
  focus try simp only [Act.put, List.setIfInBounds_toArray, List.set_cons_zero, List.set_cons_succ]
  refine wpAnyH_take (i := 14) (oi := { dst := some 3, op := Go.Op.assign (Go.Operand.tmp 13), type := 54, pos := "num.go:181", after := #[{ on := 6, ground := Go.Ground.data }, { on := 13, ground := Go.Ground.chain }, { on := 0, ground := Go.Ground.phase }, { on := 1, ground := Go.Ground.phase }, { on := 2, ground := Go.Ground.phase }, { on := 3, ground := Go.Ground.phase }, { on := 4, ground := Go.Ground.phase }, { on := 5, ground := Go.Ground.phase }, { on := 6, ground := Go.Ground.phase }, { on := 7, ground := Go.Ground.textOnly Go.Departure.lateStores }, { on := 8, ground := Go.Ground.textOnly Go.Departure.lateStores }, { on := 9, ground := Go.Ground.textOnly Go.Departure.lateStoresUnsure }, { on := 10, ground := Go.Ground.textOnly Go.Departure.lateStores }, { on := 11, ground := Go.Ground.textOnly Go.Departure.lateStores }, { on := 12, ground := Go.Ground.textOnly Go.Departure.lateStoresUnsure }, { on := 13, ground := Go.Ground.textOnly Go.Departure.lateStoresUnsure }], guard := none }) (v := ?_) rfl (by kernel_rfl) (by kernel_rfl) (by kernel_rfl) (fun _ _ _ h => h) (Or.inl ⟨by rfl, ?_⟩) (by assumption) ?_
  rotate_left 1
  · intro w_ hSw; (try dsimp only at hSw); go_simp; all_goals (with_reducible rfl)
  focus try simp only [Act.put, List.setIfInBounds_toArray, List.set_cons_zero, List.set_cons_succ]
  refine wpAnyH_take (i := 15) (oi := { dst := some 4, op := Go.Op.assign (Go.Operand.tmp 20), type := 54, pos := "num.go:181", after := #[{ on := 13, ground := Go.Ground.data }, { on := 14, ground := Go.Ground.chain }, { on := 0, ground := Go.Ground.phase }, { on := 1, ground := Go.Ground.phase }, { on := 2, ground := Go.Ground.phase }, { on := 3, ground := Go.Ground.phase }, { on := 4, ground := Go.Ground.phase }, { on := 5, ground := Go.Ground.phase }, { on := 6, ground := Go.Ground.phase }, { on := 7, ground := Go.Ground.phase }, { on := 8, ground := Go.Ground.phase }, { on := 9, ground := Go.Ground.phase }, { on := 10, ground := Go.Ground.phase }, { on := 11, ground := Go.Ground.phase }, { on := 12, ground := Go.Ground.phase }, { on := 13, ground := Go.Ground.phase }, { on := 14, ground := Go.Ground.phase }], guard := none }) (v := ?_) rfl (by kernel_rfl) (by kernel_rfl) (by kernel_rfl) (fun _ _ _ h => h) (Or.inl ⟨by rfl, ?_⟩) (by assumption) ?_
  rotate_left 1
  · intro w_ hSw; (try dsimp only at hSw); go_simp; all_goals (with_reducible rfl)
  focus try simp only [Act.put, List.setIfInBounds_toArray, List.set_cons_zero, List.set_cons_succ]
  refine wpAnyH_done (by kernel_rfl) ?_ _
  rotate_left 1
  go_upto_region 2 with (fail)
  refine wp_region_held_drew (S := (fun w' => w'.cell? ⟨ba, 0, none⟩ = some (.int .i64 p) ∧ w'.cell? ⟨ba, 1, none⟩ = some (.int .i64 q) ∧ w'.cell? ⟨bb, 0, none⟩ = some (.int .i64 r) ∧ w'.cell? ⟨bb, 1, none⟩ = some (.int .i64 s))) (by kernel_rfl) ?_ (fun hHeld => ?_)
  · exact ⟨keepcell (W := w) (by repeat (first | exact Below.refl _ _ | with_reducible assumption | refine Below.alloc ?_ (by first | exact Nat.le_refl _ | (simp; done) | (simp; omega) | omega) _ | refine Below.setCell ?_ (by first | exact Nat.le_refl _ | (simp; done) | (simp; omega) | omega) _ | refine Below.drew ?_ | refine bdrewN ?_ _)) ca, keepcell (W := w) (by repeat (first | exact Below.refl _ _ | with_reducible assumption | refine Below.alloc ?_ (by first | exact Nat.le_refl _ | (simp; done) | (simp; omega) | omega) _ | refine Below.setCell ?_ (by first | exact Nat.le_refl _ | (simp; done) | (simp; omega) | omega) _ | refine Below.drew ?_ | refine bdrewN ?_ _)) ca1, keepcell (W := w) (by repeat (first | exact Below.refl _ _ | with_reducible assumption | refine Below.alloc ?_ (by first | exact Nat.le_refl _ | (simp; done) | (simp; omega) | omega) _ | refine Below.setCell ?_ (by first | exact Nat.le_refl _ | (simp; done) | (simp; omega) | omega) _ | refine Below.drew ?_ | refine bdrewN ?_ _)) cb, keepcell (W := w) (by repeat (first | exact Below.refl _ _ | with_reducible assumption | refine Below.alloc ?_ (by first | exact Nat.le_refl _ | (simp; done) | (simp; omega) | omega) _ | refine Below.setCell ?_ (by first | exact Nat.le_refl _ | (simp; done) | (simp; omega) | omega) _ | refine Below.drew ?_ | refine bdrewN ?_ _)) cb1⟩
  refine wpAnyH_take (i := 0) (oi := { dst := some 22, op := Go.Op.fieldAddr 24 (Go.Operand.tmp 0) 0, type := 0, pos := "num.go:182", after := #[], guard := none }) (v := ?_) rfl (by kernel_rfl) (by kernel_rfl) (by kernel_rfl) (fun _ _ _ h => h) (Or.inl ⟨by rfl, ?_⟩) (by assumption) ?_
  rotate_left 1
  · intro w_ hSw; (try dsimp only at hSw); go_simp; all_goals (with_reducible rfl)
  focus try simp only [Act.put, List.setIfInBounds_toArray, List.set_cons_zero, List.set_cons_succ]
  refine wpAnyH_take (i := 1) (oi := { dst := some 23, op := Go.Op.load 2 (Go.Operand.tmp 22), type := 2, pos := "num.go:182", after := #[{ on := 0, ground := Go.Ground.data }], guard := none }) (v := ?_) rfl (by kernel_rfl) (by kernel_rfl) (by kernel_rfl) (fun _ _ _ h => h) (Or.inl ⟨by rfl, ?_⟩) (by assumption) ?_
  rotate_left 1
  · intro w_ hSw; (try dsimp only at hSw); go_simp; all_goals (with_reducible rfl)
  focus try simp only [Act.put, List.setIfInBounds_toArray, List.set_cons_zero, List.set_cons_succ]
  refine wpAnyH_take (i := 3) (oi := { dst := some 25, op := Go.Op.move (Go.Operand.tmp 3), type := 54, pos := "num.go:182", after := #[], guard := none }) (v := ?_) rfl (by kernel_rfl) (by kernel_rfl) (by kernel_rfl) (fun _ _ _ h => h) (Or.inl ⟨by rfl, ?_⟩) (by assumption) ?_
  rotate_left 1
  · intro w_ hSw; (try dsimp only at hSw); go_simp; all_goals (with_reducible rfl)
  focus try simp only [Act.put, List.setIfInBounds_toArray, List.set_cons_zero, List.set_cons_succ]
  refine wpAnyH_take (i := 5) (oi := { dst := some 27, op := Go.Op.fieldAddr 24 (Go.Operand.tmp 1) 0, type := 0, pos := "num.go:182", after := #[], guard := none }) (v := ?_) rfl (by kernel_rfl) (by kernel_rfl) (by kernel_rfl) (fun _ _ _ h => h) (Or.inl ⟨by rfl, ?_⟩) (by assumption) ?_
  rotate_left 1
  · intro w_ hSw; (try dsimp only at hSw); go_simp; all_goals (with_reducible rfl)
  focus try simp only [Act.put, List.setIfInBounds_toArray, List.set_cons_zero, List.set_cons_succ]
  refine wpAnyH_take (i := 6) (oi := { dst := some 28, op := Go.Op.load 2 (Go.Operand.tmp 27), type := 2, pos := "num.go:182", after := #[{ on := 5, ground := Go.Ground.data }], guard := none }) (v := ?_) rfl (by kernel_rfl) (by kernel_rfl) (by kernel_rfl) (fun _ _ _ h => h) (Or.inl ⟨by rfl, ?_⟩) (by assumption) ?_
  rotate_left 1
  · intro w_ hSw; (try dsimp only at hSw); go_simp; all_goals (with_reducible rfl)
  focus try simp only [Act.put, List.setIfInBounds_toArray, List.set_cons_zero, List.set_cons_succ]
  refine wpAnyH_take (i := 8) (oi := { dst := some 30, op := Go.Op.move (Go.Operand.tmp 4), type := 54, pos := "num.go:182", after := #[], guard := none }) (v := ?_) rfl (by kernel_rfl) (by kernel_rfl) (by kernel_rfl) (fun _ _ _ h => h) (Or.inl ⟨by rfl, ?_⟩) (by assumption) ?_
  rotate_left 1
  · intro w_ hSw; (try dsimp only at hSw); go_simp; all_goals (with_reducible rfl)
  focus try simp only [Act.put, List.setIfInBounds_toArray, List.set_cons_zero, List.set_cons_succ]
  refine wpAnyH_ready (rs := [2]) (by kernel_rfl) (by simp) ?_
  refine AllReadyH.cons (o := { dst := some 24, op := Go.Op.call { callee := Go.Callee.value (Go.Operand.func 45), args := #[Go.Operand.tmp 23], argTypes := #[2] }, type := 54, pos := "num.go:182", after := #[{ on := 1, ground := Go.Ground.data }], guard := none }) rfl (fun K hK => ?_) (AllReadyH.nil)
  focus go_simp
  focus (refine (sp.out _).mono ?_; rintro e w1 ⟨rfl, rfl⟩)
  focus try simp only []
  refine hK.out _ _ ?_ (fun hHeld => ?_)
  · exact ⟨keepcell (W := w) (by repeat (first | exact Below.refl _ _ | with_reducible assumption | refine Below.alloc ?_ (by first | exact Nat.le_refl _ | (simp; done) | (simp; omega) | omega) _ | refine Below.setCell ?_ (by first | exact Nat.le_refl _ | (simp; done) | (simp; omega) | omega) _ | refine Below.drew ?_ | refine bdrewN ?_ _)) ca, keepcell (W := w) (by repeat (first | exact Below.refl _ _ | with_reducible assumption | refine Below.alloc ?_ (by first | exact Nat.le_refl _ | (simp; done) | (simp; omega) | omega) _ | refine Below.setCell ?_ (by first | exact Nat.le_refl _ | (simp; done) | (simp; omega) | omega) _ | refine Below.drew ?_ | refine bdrewN ?_ _)) ca1, keepcell (W := w) (by repeat (first | exact Below.refl _ _ | with_reducible assumption | refine Below.alloc ?_ (by first | exact Nat.le_refl _ | (simp; done) | (simp; omega) | omega) _ | refine Below.setCell ?_ (by first | exact Nat.le_refl _ | (simp; done) | (simp; omega) | omega) _ | refine Below.drew ?_ | refine bdrewN ?_ _)) cb, keepcell (W := w) (by repeat (first | exact Below.refl _ _ | with_reducible assumption | refine Below.alloc ?_ (by first | exact Nat.le_refl _ | (simp; done) | (simp; omega) | omega) _ | refine Below.setCell ?_ (by first | exact Nat.le_refl _ | (simp; done) | (simp; omega) | omega) _ | refine Below.drew ?_ | refine bdrewN ?_ _)) cb1⟩
  focus clear hK K
  focus try simp only [Act.put, List.setIfInBounds_toArray, List.set_cons_zero, List.set_cons_succ]
  refine wpAnyH_take (i := 4) (oi := { dst := some 26, op := Go.Op.binOp Go.BinOp.quo 54 (Go.Operand.tmp 24) (Go.Operand.tmp 25) 54, type := 54, pos := "num.go:182", after := #[{ on := 2, ground := Go.Ground.data }, { on := 3, ground := Go.Ground.data }], guard := none }) (v := ?_) rfl (by kernel_rfl) (by kernel_rfl) (by kernel_rfl) (fun _ _ _ h => h) (Or.inl ⟨by rfl, ?_⟩) (by assumption) ?_
  rotate_left 1
  · intro w_ hSw; (try dsimp only at hSw); go_simp; all_goals (with_reducible rfl)
  focus try simp only [Act.put, List.setIfInBounds_toArray, List.set_cons_zero, List.set_cons_succ]
  refine wpAnyH_ready (rs := [7]) (by kernel_rfl) (by simp) ?_
  refine AllReadyH.cons (o := { dst := some 29, op := Go.Op.call { callee := Go.Callee.value (Go.Operand.func 45), args := #[Go.Operand.tmp 28], argTypes := #[2] }, type := 54, pos := "num.go:182", after := #[{ on := 6, ground := Go.Ground.data }, { on := 2, ground := Go.Ground.chain }], guard := none }) rfl (fun K hK => ?_) (AllReadyH.nil)
  focus go_simp
  focus (refine (sr.out _).mono ?_; rintro e w1 ⟨rfl, rfl⟩)
  focus try simp only []
  refine hK.out _ _ ?_ (fun hHeld => ?_)
  · exact ⟨keepcell (W := w) (by repeat (first | exact Below.refl _ _ | with_reducible assumption | refine Below.alloc ?_ (by first | exact Nat.le_refl _ | (simp; done) | (simp; omega) | omega) _ | refine Below.setCell ?_ (by first | exact Nat.le_refl _ | (simp; done) | (simp; omega) | omega) _ | refine Below.drew ?_ | refine bdrewN ?_ _)) ca, keepcell (W := w) (by repeat (first | exact Below.refl _ _ | with_reducible assumption | refine Below.alloc ?_ (by first | exact Nat.le_refl _ | (simp; done) | (simp; omega) | omega) _ | refine Below.setCell ?_ (by first | exact Nat.le_refl _ | (simp; done) | (simp; omega) | omega) _ | refine Below.drew ?_ | refine bdrewN ?_ _)) ca1, keepcell (W := w) (by repeat (first | exact Below.refl _ _ | with_reducible assumption | refine Below.alloc ?_ (by first | exact Nat.le_refl _ | (simp; done) | (simp; omega) | omega) _ | refine Below.setCell ?_ (by first | exact Nat.le_refl _ | (simp; done) | (simp; omega) | omega) _ | refine Below.drew ?_ | refine bdrewN ?_ _)) cb, keepcell (W := w) (by repeat (first | exact Below.refl _ _ | with_reducible assumption | refine Below.alloc ?_ (by first | exact Nat.le_refl _ | (simp; done) | (simp; omega) | omega) _ | refine Below.setCell ?_ (by first | exact Nat.le_refl _ | (simp; done) | (simp; omega) | omega) _ | refine Below.drew ?_ | refine bdrewN ?_ _)) cb1⟩
  focus clear hK K
  focus try simp only [Act.put, List.setIfInBounds_toArray, List.set_cons_zero, List.set_cons_succ]
  refine wpAnyH_take (i := 9) (oi := { dst := some 31, op := Go.Op.binOp Go.BinOp.quo 54 (Go.Operand.tmp 29) (Go.Operand.tmp 30) 54, type := 54, pos := "num.go:182", after := #[{ on := 7, ground := Go.Ground.data }, { on := 8, ground := Go.Ground.data }], guard := none }) (v := ?_) rfl (by kernel_rfl) (by kernel_rfl) (by kernel_rfl) (fun _ _ _ h => h) (Or.inl ⟨by rfl, ?_⟩) (by assumption) ?_
  rotate_left 1
  · intro w_ hSw; (try dsimp only at hSw); go_simp; all_goals (with_reducible rfl)
  focus try simp only [Act.put, List.setIfInBounds_toArray, List.set_cons_zero, List.set_cons_succ]
  refine wpAnyH_ready (rs := [10]) (by kernel_rfl) (by simp) ?_
  refine AllReadyH.cons (o := { dst := some 32, op := Go.Op.call { callee := Go.Callee.value (Go.Operand.func 63), args := #[Go.Operand.tmp 26, Go.Operand.tmp 31], argTypes := #[54, 54] }, type := 74, pos := "num.go:182", after := #[{ on := 4, ground := Go.Ground.data }, { on := 9, ground := Go.Ground.data }, { on := 7, ground := Go.Ground.chain }], guard := none }) rfl (fun K hK => ?_) (AllReadyH.nil)
  focus go_simp
  focus (refine (MU.out _).mono ?_; rintro e w1 ⟨rfl, rfl⟩)
  focus try simp only []
  refine hK.out _ _ ?_ (fun hHeld => ?_)
  · exact ⟨keepcell (W := w) (by repeat (first | exact Below.refl _ _ | with_reducible assumption | refine Below.alloc ?_ (by first | exact Nat.le_refl _ | (simp; done) | (simp; omega) | omega) _ | refine Below.setCell ?_ (by first | exact Nat.le_refl _ | (simp; done) | (simp; omega) | omega) _ | refine Below.drew ?_ | refine bdrewN ?_ _)) ca, keepcell (W := w) (by repeat (first | exact Below.refl _ _ | with_reducible assumption | refine Below.alloc ?_ (by first | exact Nat.le_refl _ | (simp; done) | (simp; omega) | omega) _ | refine Below.setCell ?_ (by first | exact Nat.le_refl _ | (simp; done) | (simp; omega) | omega) _ | refine Below.drew ?_ | refine bdrewN ?_ _)) ca1, keepcell (W := w) (by repeat (first | exact Below.refl _ _ | with_reducible assumption | refine Below.alloc ?_ (by first | exact Nat.le_refl _ | (simp; done) | (simp; omega) | omega) _ | refine Below.setCell ?_ (by first | exact Nat.le_refl _ | (simp; done) | (simp; omega) | omega) _ | refine Below.drew ?_ | refine bdrewN ?_ _)) cb, keepcell (W := w) (by repeat (first | exact Below.refl _ _ | with_reducible assumption | refine Below.alloc ?_ (by first | exact Nat.le_refl _ | (simp; done) | (simp; omega) | omega) _ | refine Below.setCell ?_ (by first | exact Nat.le_refl _ | (simp; done) | (simp; omega) | omega) _ | refine Below.drew ?_ | refine bdrewN ?_ _)) cb1⟩
  focus clear hK K
  focus try simp only [Act.put, List.setIfInBounds_toArray, List.set_cons_zero, List.set_cons_succ]
  refine wpAnyH_take (i := 11) (oi := { dst := some 21, op := Go.Op.move (Go.Operand.tmp 32), type := 74, pos := "num.go:182", after := #[{ on := 10, ground := Go.Ground.data }], guard := none }) (v := ?_) rfl (by kernel_rfl) (by kernel_rfl) (by kernel_rfl) (fun _ _ _ h => h) (Or.inl ⟨by rfl, ?_⟩) (by assumption) ?_
  rotate_left 1
  · intro w_ hSw; (try dsimp only at hSw); go_simp; all_goals (with_reducible rfl)
  focus try simp only [Act.put, List.setIfInBounds_toArray, List.set_cons_zero, List.set_cons_succ]
  refine wpAnyH_take (i := 12) (oi := { dst := some 33, op := Go.Op.extract (Go.Operand.tmp 21) 0, type := 54, pos := "num.go:182", after := #[{ on := 11, ground := Go.Ground.data }], guard := none }) (v := ?_) rfl (by kernel_rfl) (by kernel_rfl) (by kernel_rfl) (fun _ _ _ h => h) (Or.inl ⟨by rfl, ?_⟩) (by assumption) ?_
  rotate_left 1
  · intro w_ hSw; (try dsimp only at hSw); go_simp; all_goals (with_reducible rfl)
  focus try simp only [Act.put, List.setIfInBounds_toArray, List.set_cons_zero, List.set_cons_succ]
  refine wpAnyH_take (i := 13) (oi := { dst := some 34, op := Go.Op.extract (Go.Operand.tmp 21) 1, type := 54, pos := "num.go:182", after := #[{ on := 11, ground := Go.Ground.data }, { on := 14, ground := Go.Ground.gcOnly Go.Departure.lateStores }], guard := none }) (v := ?_) rfl (by kernel_rfl) (by kernel_rfl) (by kernel_rfl) (fun _ _ _ h => h) (Or.inl ⟨by rfl, ?_⟩) (by assumption) ?_
  rotate_left 1
  · intro w_ hSw; (try dsimp only at hSw); go_simp; all_goals (with_reducible rfl)
  focus try simp only [Act.put, List.setIfInBounds_toArray, List.set_cons_zero, List.set_cons_succ]
  refine wpAnyH_take (i := 14) (oi := { dst := some 5, op := Go.Op.assign (Go.Operand.tmp 33), type := 54, pos := "num.go:182", after := #[{ on := 12, ground := Go.Ground.data }, { on := 10, ground := Go.Ground.chain }, { on := 0, ground := Go.Ground.phase }, { on := 1, ground := Go.Ground.phase }, { on := 2, ground := Go.Ground.phase }, { on := 3, ground := Go.Ground.phase }, { on := 4, ground := Go.Ground.phase }, { on := 5, ground := Go.Ground.phase }, { on := 6, ground := Go.Ground.phase }, { on := 7, ground := Go.Ground.phase }, { on := 8, ground := Go.Ground.phase }, { on := 9, ground := Go.Ground.phase }, { on := 10, ground := Go.Ground.phase }, { on := 11, ground := Go.Ground.phase }, { on := 12, ground := Go.Ground.phase }, { on := 13, ground := Go.Ground.textOnly Go.Departure.lateStores }], guard := none }) (v := ?_) rfl (by kernel_rfl) (by kernel_rfl) (by kernel_rfl) (fun _ _ _ h => h) (Or.inl ⟨by rfl, ?_⟩) (by assumption) ?_
  rotate_left 1
  · intro w_ hSw; (try dsimp only at hSw); go_simp; all_goals (with_reducible rfl)
  focus try simp only [Act.put, List.setIfInBounds_toArray, List.set_cons_zero, List.set_cons_succ]
  refine wpAnyH_take (i := 15) (oi := { dst := some 6, op := Go.Op.assign (Go.Operand.tmp 34), type := 54, pos := "num.go:182", after := #[{ on := 13, ground := Go.Ground.data }, { on := 14, ground := Go.Ground.chain }, { on := 0, ground := Go.Ground.phase }, { on := 1, ground := Go.Ground.phase }, { on := 2, ground := Go.Ground.phase }, { on := 3, ground := Go.Ground.phase }, { on := 4, ground := Go.Ground.phase }, { on := 5, ground := Go.Ground.phase }, { on := 6, ground := Go.Ground.phase }, { on := 7, ground := Go.Ground.phase }, { on := 8, ground := Go.Ground.phase }, { on := 9, ground := Go.Ground.phase }, { on := 10, ground := Go.Ground.phase }, { on := 11, ground := Go.Ground.phase }, { on := 12, ground := Go.Ground.phase }, { on := 13, ground := Go.Ground.phase }, { on := 14, ground := Go.Ground.phase }], guard := none }) (v := ?_) rfl (by kernel_rfl) (by kernel_rfl) (by kernel_rfl) (fun _ _ _ h => h) (Or.inl ⟨by rfl, ?_⟩) (by assumption) ?_
  rotate_left 1
  · intro w_ hSw; (try dsimp only at hSw); go_simp; all_goals (with_reducible rfl)
  focus try simp only [Act.put, List.setIfInBounds_toArray, List.set_cons_zero, List.set_cons_succ]
  refine wpAnyH_done (by kernel_rfl) ?_ _
  rotate_left 1
  go_upto_region 3 with (fail)
  refine wp_region_held_drew (S := (fun w' => w'.cell? ⟨ba, 0, none⟩ = some (.int .i64 p) ∧ w'.cell? ⟨ba, 1, none⟩ = some (.int .i64 q) ∧ w'.cell? ⟨bb, 0, none⟩ = some (.int .i64 r) ∧ w'.cell? ⟨bb, 1, none⟩ = some (.int .i64 s))) (by kernel_rfl) ?_ (fun hHeld => ?_)
  · exact ⟨keepcell (W := w) (by repeat (first | exact Below.refl _ _ | with_reducible assumption | refine Below.alloc ?_ (by first | exact Nat.le_refl _ | (simp; done) | (simp; omega) | omega) _ | refine Below.setCell ?_ (by first | exact Nat.le_refl _ | (simp; done) | (simp; omega) | omega) _ | refine Below.drew ?_ | refine bdrewN ?_ _)) ca, keepcell (W := w) (by repeat (first | exact Below.refl _ _ | with_reducible assumption | refine Below.alloc ?_ (by first | exact Nat.le_refl _ | (simp; done) | (simp; omega) | omega) _ | refine Below.setCell ?_ (by first | exact Nat.le_refl _ | (simp; done) | (simp; omega) | omega) _ | refine Below.drew ?_ | refine bdrewN ?_ _)) ca1, keepcell (W := w) (by repeat (first | exact Below.refl _ _ | with_reducible assumption | refine Below.alloc ?_ (by first | exact Nat.le_refl _ | (simp; done) | (simp; omega) | omega) _ | refine Below.setCell ?_ (by first | exact Nat.le_refl _ | (simp; done) | (simp; omega) | omega) _ | refine Below.drew ?_ | refine bdrewN ?_ _)) cb, keepcell (W := w) (by repeat (first | exact Below.refl _ _ | with_reducible assumption | refine Below.alloc ?_ (by first | exact Nat.le_refl _ | (simp; done) | (simp; omega) | omega) _ | refine Below.setCell ?_ (by first | exact Nat.le_refl _ | (simp; done) | (simp; omega) | omega) _ | refine Below.drew ?_ | refine bdrewN ?_ _)) cb1⟩
  refine wpAnyH_take (i := 0) (oi := { dst := some 35, op := Go.Op.fieldAddr 24 (Go.Operand.tmp 0) 0, type := 0, pos := "num.go:183", after := #[], guard := none }) (v := ?_) rfl (by kernel_rfl) (by kernel_rfl) (by kernel_rfl) (fun _ _ _ h => h) (Or.inl ⟨by rfl, ?_⟩) (by assumption) ?_
  rotate_left 1
  · intro w_ hSw; (try dsimp only at hSw); go_simp; all_goals (with_reducible rfl)
  focus try simp only [Act.put, List.setIfInBounds_toArray, List.set_cons_zero, List.set_cons_succ]
  refine wpAnyH_take (i := 1) (oi := { dst := some 36, op := Go.Op.load 2 (Go.Operand.tmp 35), type := 2, pos := "num.go:183", after := #[{ on := 0, ground := Go.Ground.data }], guard := none }) (v := ?_) rfl (by kernel_rfl) (by kernel_rfl) (by kernel_rfl) (fun _ _ _ h => h) (Or.inl ⟨by rfl, ?_⟩) (by assumption) ?_
  rotate_left 1
  · intro w_ hSw; (try dsimp only at hSw); go_simp; all_goals (with_reducible rfl)
  focus try simp only [Act.put, List.setIfInBounds_toArray, List.set_cons_zero, List.set_cons_succ]
  refine wpAnyH_take (i := 2) (oi := { dst := some 37, op := Go.Op.binOp Go.BinOp.lss 2 (Go.Operand.tmp 36) (Go.Operand.const (Go.Value.int Go.IntKind.i64 0)) 2, type := 4, pos := "num.go:183", after := #[{ on := 1, ground := Go.Ground.data }], guard := none }) (v := ?_) rfl (by kernel_rfl) (by kernel_rfl) (by kernel_rfl) (fun _ _ _ h => h) (Or.inl ⟨by rfl, ?_⟩) (by assumption) ?_
  rotate_left 1
  · intro w_ hSw; (try dsimp only at hSw); go_simp; all_goals (with_reducible rfl)
  focus try simp only [Act.put, List.setIfInBounds_toArray, List.set_cons_zero, List.set_cons_succ]
  refine wpAnyH_take (i := 3) (oi := { dst := some 38, op := Go.Op.fieldAddr 24 (Go.Operand.tmp 1) 0, type := 0, pos := "num.go:183", after := #[], guard := none }) (v := ?_) rfl (by kernel_rfl) (by kernel_rfl) (by kernel_rfl) (fun _ _ _ h => h) (Or.inl ⟨by rfl, ?_⟩) (by assumption) ?_
  rotate_left 1
  · intro w_ hSw; (try dsimp only at hSw); go_simp; all_goals (with_reducible rfl)
  focus try simp only [Act.put, List.setIfInBounds_toArray, List.set_cons_zero, List.set_cons_succ]
  refine wpAnyH_take (i := 4) (oi := { dst := some 39, op := Go.Op.load 2 (Go.Operand.tmp 38), type := 2, pos := "num.go:183", after := #[{ on := 3, ground := Go.Ground.data }], guard := none }) (v := ?_) rfl (by kernel_rfl) (by kernel_rfl) (by kernel_rfl) (fun _ _ _ h => h) (Or.inl ⟨by rfl, ?_⟩) (by assumption) ?_
  rotate_left 1
  · intro w_ hSw; (try dsimp only at hSw); go_simp; all_goals (with_reducible rfl)
  focus try simp only [Act.put, List.setIfInBounds_toArray, List.set_cons_zero, List.set_cons_succ]
  refine wpAnyH_take (i := 5) (oi := { dst := some 40, op := Go.Op.binOp Go.BinOp.lss 2 (Go.Operand.tmp 39) (Go.Operand.const (Go.Value.int Go.IntKind.i64 0)) 2, type := 4, pos := "num.go:183", after := #[{ on := 4, ground := Go.Ground.data }], guard := none }) (v := ?_) rfl (by kernel_rfl) (by kernel_rfl) (by kernel_rfl) (fun _ _ _ h => h) (Or.inl ⟨by rfl, ?_⟩) (by assumption) ?_
  rotate_left 1
  · intro w_ hSw; (try dsimp only at hSw); go_simp; all_goals (with_reducible rfl)
  focus try simp only [Act.put, List.setIfInBounds_toArray, List.set_cons_zero, List.set_cons_succ]
  refine wpAnyH_take (i := 6) (oi := { dst := some 41, op := Go.Op.binOp Go.BinOp.neq 4 (Go.Operand.tmp 37) (Go.Operand.tmp 40) 4, type := 4, pos := "num.go:183", after := #[{ on := 2, ground := Go.Ground.data }, { on := 5, ground := Go.Ground.data }], guard := none }) (v := ?_) rfl (by kernel_rfl) (by kernel_rfl) (by kernel_rfl) (fun _ _ _ h => h) (Or.inl ⟨by rfl, ?_⟩) (by assumption) ?_
  rotate_left 1
  · intro w_ hSw; (try dsimp only at hSw); go_simp; all_goals (with_reducible rfl)
  focus try simp only [Act.put, List.setIfInBounds_toArray, List.set_cons_zero, List.set_cons_succ]
  refine wpAnyH_take (i := 7) (oi := { dst := some 42, op := Go.Op.move (Go.Operand.tmp 5), type := 54, pos := "num.go:183", after := #[], guard := none }) (v := ?_) rfl (by kernel_rfl) (by kernel_rfl) (by kernel_rfl) (fun _ _ _ h => h) (Or.inl ⟨by rfl, ?_⟩) (by assumption) ?_
  rotate_left 1
  · intro w_ hSw; (try dsimp only at hSw); go_simp; all_goals (with_reducible rfl)
  focus try simp only [Act.put, List.setIfInBounds_toArray, List.set_cons_zero, List.set_cons_succ]
  refine wpAnyH_take (i := 8) (oi := { dst := some 43, op := Go.Op.move (Go.Operand.tmp 6), type := 54, pos := "num.go:183", after := #[], guard := none }) (v := ?_) rfl (by kernel_rfl) (by kernel_rfl) (by kernel_rfl) (fun _ _ _ h => h) (Or.inl ⟨by rfl, ?_⟩) (by assumption) ?_
  rotate_left 1
  · intro w_ hSw; (try dsimp only at hSw); go_simp; all_goals (with_reducible rfl)
  focus try simp only [Act.put, List.setIfInBounds_toArray, List.set_cons_zero, List.set_cons_succ]
  refine wpAnyH_take (i := 9) (oi := { dst := some 44, op := Go.Op.build 59 #[(0, Go.Operand.tmp 41), (1, Go.Operand.tmp 42), (2, Go.Operand.tmp 43)], type := 59, pos := "num.go:183", after := #[{ on := 6, ground := Go.Ground.data }, { on := 7, ground := Go.Ground.data }, { on := 8, ground := Go.Ground.data }], guard := none }) (v := ?_) rfl (by kernel_rfl) (by kernel_rfl) (by kernel_rfl) (fun _ _ _ h => h) (Or.inl ⟨by rfl, ?_⟩) (by assumption) ?_
  rotate_left 1
  · intro w_ hSw; (try dsimp only at hSw); go_simp; all_goals (with_reducible rfl)
  focus try simp only [Act.put, List.setIfInBounds_toArray, List.set_cons_zero, List.set_cons_succ]
  refine wpAnyH_take (i := 10) (oi := { dst := some 45, op := Go.Op.fieldAddr 24 (Go.Operand.tmp 0) 1, type := 0, pos := "num.go:183", after := #[], guard := none }) (v := ?_) rfl (by kernel_rfl) (by kernel_rfl) (by kernel_rfl) (fun _ _ _ h => h) (Or.inl ⟨by rfl, ?_⟩) (by assumption) ?_
  rotate_left 1
  · intro w_ hSw; (try dsimp only at hSw); go_simp; all_goals (with_reducible rfl)
  focus try simp only [Act.put, List.setIfInBounds_toArray, List.set_cons_zero, List.set_cons_succ]
  refine wpAnyH_take (i := 11) (oi := { dst := some 46, op := Go.Op.load 2 (Go.Operand.tmp 45), type := 2, pos := "num.go:183", after := #[{ on := 10, ground := Go.Ground.data }], guard := none }) (v := ?_) rfl (by kernel_rfl) (by kernel_rfl) (by kernel_rfl) (fun _ _ _ h => h) (Or.inl ⟨by rfl, ?_⟩) (by assumption) ?_
  rotate_left 1
  · intro w_ hSw; (try dsimp only at hSw); go_simp; all_goals (with_reducible rfl)
  focus try simp only [Act.put, List.setIfInBounds_toArray, List.set_cons_zero, List.set_cons_succ]
  refine wpAnyH_take (i := 12) (oi := { dst := some 47, op := Go.Op.move (Go.Operand.tmp 4), type := 54, pos := "num.go:183", after := #[], guard := none }) (v := ?_) rfl (by kernel_rfl) (by kernel_rfl) (by kernel_rfl) (fun _ _ _ h => h) (Or.inl ⟨by rfl, ?_⟩) (by assumption) ?_
  rotate_left 1
  · intro w_ hSw; (try dsimp only at hSw); go_simp; all_goals (with_reducible rfl)
  focus try simp only [Act.put, List.setIfInBounds_toArray, List.set_cons_zero, List.set_cons_succ]
  refine wpAnyH_take (i := 13) (oi := { dst := some 48, op := Go.Op.convert 54 2 (Go.Operand.tmp 47), type := 2, pos := "num.go:183", after := #[{ on := 12, ground := Go.Ground.data }], guard := none }) (v := ?_) rfl (by kernel_rfl) (by kernel_rfl) (by kernel_rfl) (fun _ _ _ h => h) (Or.inl ⟨by rfl, ?_⟩) (by assumption) ?_
  rotate_left 1
  · intro w_ hSw; (try dsimp only at hSw); go_simp; all_goals (with_reducible rfl)
  focus try simp only [Act.put, List.setIfInBounds_toArray, List.set_cons_zero, List.set_cons_succ]
  refine wpAnyH_take (i := 14) (oi := { dst := some 49, op := Go.Op.binOp Go.BinOp.quo 2 (Go.Operand.tmp 46) (Go.Operand.tmp 48) 2, type := 2, pos := "num.go:183", after := #[{ on := 11, ground := Go.Ground.data }, { on := 13, ground := Go.Ground.data }], guard := none }) (v := ?_) rfl (by kernel_rfl) (by kernel_rfl) (by kernel_rfl) (fun _ _ _ h => h) (Or.inl ⟨by rfl, ?_⟩) (by assumption) ?_
  rotate_left 1
  · intro w_ hSw; (try dsimp only at hSw); go_simp; all_goals (with_reducible rfl)
  focus try simp only [Act.put, List.setIfInBounds_toArray, List.set_cons_zero, List.set_cons_succ]
  refine wpAnyH_take (i := 15) (oi := { dst := some 50, op := Go.Op.fieldAddr 24 (Go.Operand.tmp 1) 1, type := 0, pos := "num.go:183", after := #[], guard := none }) (v := ?_) rfl (by kernel_rfl) (by kernel_rfl) (by kernel_rfl) (fun _ _ _ h => h) (Or.inl ⟨by rfl, ?_⟩) (by assumption) ?_
  rotate_left 1
  · intro w_ hSw; (try dsimp only at hSw); go_simp; all_goals (with_reducible rfl)
  focus try simp only [Act.put, List.setIfInBounds_toArray, List.set_cons_zero, List.set_cons_succ]
  refine wpAnyH_take (i := 16) (oi := { dst := some 51, op := Go.Op.load 2 (Go.Operand.tmp 50), type := 2, pos := "num.go:183", after := #[{ on := 15, ground := Go.Ground.data }], guard := none }) (v := ?_) rfl (by kernel_rfl) (by kernel_rfl) (by kernel_rfl) (fun _ _ _ h => h) (Or.inl ⟨by rfl, ?_⟩) (by assumption) ?_
  rotate_left 1
  · intro w_ hSw; (try dsimp only at hSw); go_simp; all_goals (with_reducible rfl)
  focus try simp only [Act.put, List.setIfInBounds_toArray, List.set_cons_zero, List.set_cons_succ]
  refine wpAnyH_take (i := 17) (oi := { dst := some 52, op := Go.Op.move (Go.Operand.tmp 3), type := 54, pos := "num.go:183", after := #[], guard := none }) (v := ?_) rfl (by kernel_rfl) (by kernel_rfl) (by kernel_rfl) (fun _ _ _ h => h) (Or.inl ⟨by rfl, ?_⟩) (by assumption) ?_
  rotate_left 1
  · intro w_ hSw; (try dsimp only at hSw); go_simp; all_goals (with_reducible rfl)
  focus try simp only [Act.put, List.setIfInBounds_toArray, List.set_cons_zero, List.set_cons_succ]
  refine wpAnyH_take (i := 18) (oi := { dst := some 53, op := Go.Op.convert 54 2 (Go.Operand.tmp 52), type := 2, pos := "num.go:183", after := #[{ on := 17, ground := Go.Ground.data }], guard := none }) (v := ?_) rfl (by kernel_rfl) (by kernel_rfl) (by kernel_rfl) (fun _ _ _ h => h) (Or.inl ⟨by rfl, ?_⟩) (by assumption) ?_
  rotate_left 1
  · intro w_ hSw; (try dsimp only at hSw); go_simp; all_goals (with_reducible rfl)
  focus try simp only [Act.put, List.setIfInBounds_toArray, List.set_cons_zero, List.set_cons_succ]
  refine wpAnyH_take (i := 19) (oi := { dst := some 54, op := Go.Op.binOp Go.BinOp.quo 2 (Go.Operand.tmp 51) (Go.Operand.tmp 53) 2, type := 2, pos := "num.go:183", after := #[{ on := 16, ground := Go.Ground.data }, { on := 18, ground := Go.Ground.data }], guard := none }) (v := ?_) rfl (by kernel_rfl) (by kernel_rfl) (by kernel_rfl) (fun _ _ _ h => h) (Or.inl ⟨by rfl, ?_⟩) (by assumption) ?_
  rotate_left 1
  · intro w_ hSw; (try dsimp only at hSw); go_simp; all_goals (with_reducible rfl)
  focus try simp only [Act.put, List.setIfInBounds_toArray, List.set_cons_zero, List.set_cons_succ]
  refine wpAnyH_ready (rs := [20]) (by kernel_rfl) (by simp) ?_
  refine AllReadyH.cons (o := { dst := some 55, op := Go.Op.call { callee := Go.Callee.value (Go.Operand.func 51), args := #[Go.Operand.tmp 49, Go.Operand.tmp 54], argTypes := #[2, 2] }, type := 59, pos := "num.go:183", after := #[{ on := 14, ground := Go.Ground.data }, { on := 19, ground := Go.Ground.data }], guard := none }) rfl (fun K hK => ?_) (AllReadyH.nil)
  focus go_simp
  focus (refine (PR.out _).mono ?_; rintro e w1 ⟨rfl, rfl⟩)
  focus try simp only []
  refine hK.out _ _ ?_ (fun hHeld => ?_)
  · exact ⟨keepcell (W := w) (by repeat (first | exact Below.refl _ _ | with_reducible assumption | refine Below.alloc ?_ (by first | exact Nat.le_refl _ | (simp; done) | (simp; omega) | omega) _ | refine Below.setCell ?_ (by first | exact Nat.le_refl _ | (simp; done) | (simp; omega) | omega) _ | refine Below.drew ?_ | refine bdrewN ?_ _)) ca, keepcell (W := w) (by repeat (first | exact Below.refl _ _ | with_reducible assumption | refine Below.alloc ?_ (by first | exact Nat.le_refl _ | (simp; done) | (simp; omega) | omega) _ | refine Below.setCell ?_ (by first | exact Nat.le_refl _ | (simp; done) | (simp; omega) | omega) _ | refine Below.drew ?_ | refine bdrewN ?_ _)) ca1, keepcell (W := w) (by repeat (first | exact Below.refl _ _ | with_reducible assumption | refine Below.alloc ?_ (by first | exact Nat.le_refl _ | (simp; done) | (simp; omega) | omega) _ | refine Below.setCell ?_ (by first | exact Nat.le_refl _ | (simp; done) | (simp; omega) | omega) _ | refine Below.drew ?_ | refine bdrewN ?_ _)) cb, keepcell (W := w) (by repeat (first | exact Below.refl _ _ | with_reducible assumption | refine Below.alloc ?_ (by first | exact Nat.le_refl _ | (simp; done) | (simp; omega) | omega) _ | refine Below.setCell ?_ (by first | exact Nat.le_refl _ | (simp; done) | (simp; omega) | omega) _ | refine Below.drew ?_ | refine bdrewN ?_ _)) cb1⟩
  focus clear hK K
  focus try simp only [Act.put, List.setIfInBounds_toArray, List.set_cons_zero, List.set_cons_succ]
  refine wpAnyH_ready (rs := [21]) (by kernel_rfl) (by simp) ?_
  refine AllReadyH.cons (o := { dst := some 56, op := Go.Op.call { callee := Go.Callee.value (Go.Operand.func 46), args := #[Go.Operand.tmp 44, Go.Operand.tmp 55], argTypes := #[59, 59] }, type := 24, pos := "num.go:183", after := #[{ on := 9, ground := Go.Ground.data }, { on := 20, ground := Go.Ground.data }, { on := 20, ground := Go.Ground.chain }], guard := none }) rfl (fun K hK => ?_) (AllReadyH.nil)
  focus go_simp
  focus (refine (RR.out _).mono ?_; rintro e w5 ⟨rfl, hb5⟩; have K0 : w5.cell? ⟨w.heap.size, 0, none⟩ = some (.int .i64 0) := keepcell hb5 (by simp [go_sem, hz]; done); have K1 : w5.cell? ⟨w.heap.size, 1, none⟩ = some (.int .i64 0) := keepcell hb5 (by simp [go_sem, hz]; done); have F0 : w5.frozen? ⟨w.heap.size, 0, none⟩ = false := (hb5.frozen (p := ⟨w.heap.size, 0, none⟩) (by first | exact Nat.le_refl _ | (simp; done) | (simp; omega) | omega)).trans (by simp [go_sem, hz]; done); have F1 : w5.frozen? ⟨w.heap.size, 1, none⟩ = false := (hb5.frozen (p := ⟨w.heap.size, 1, none⟩) (by first | exact Nat.le_refl _ | (simp; done) | (simp; omega) | omega)).trans (by simp [go_sem, hz]; done))
  focus try simp only []
  refine hK.out _ _ ?_ (fun hHeld => ?_)
  · exact ⟨keepcell hb5 (keepcell (W := w) (by repeat (first | exact Below.refl _ _ | with_reducible assumption | refine Below.alloc ?_ (by first | exact Nat.le_refl _ | (simp; done) | (simp; omega) | omega) _ | refine Below.setCell ?_ (by first | exact Nat.le_refl _ | (simp; done) | (simp; omega) | omega) _ | refine Below.drew ?_ | refine bdrewN ?_ _)) ca), keepcell hb5 (keepcell (W := w) (by repeat (first | exact Below.refl _ _ | with_reducible assumption | refine Below.alloc ?_ (by first | exact Nat.le_refl _ | (simp; done) | (simp; omega) | omega) _ | refine Below.setCell ?_ (by first | exact Nat.le_refl _ | (simp; done) | (simp; omega) | omega) _ | refine Below.drew ?_ | refine bdrewN ?_ _)) ca1), keepcell hb5 (keepcell (W := w) (by repeat (first | exact Below.refl _ _ | with_reducible assumption | refine Below.alloc ?_ (by first | exact Nat.le_refl _ | (simp; done) | (simp; omega) | omega) _ | refine Below.setCell ?_ (by first | exact Nat.le_refl _ | (simp; done) | (simp; omega) | omega) _ | refine Below.drew ?_ | refine bdrewN ?_ _)) cb), keepcell hb5 (keepcell (W := w) (by repeat (first | exact Below.refl _ _ | with_reducible assumption | refine Below.alloc ?_ (by first | exact Nat.le_refl _ | (simp; done) | (simp; omega) | omega) _ | refine Below.setCell ?_ (by first | exact Nat.le_refl _ | (simp; done) | (simp; omega) | omega) _ | refine Below.drew ?_ | refine bdrewN ?_ _)) cb1)⟩
  focus clear hK K
  focus try simp only [Act.put, List.setIfInBounds_toArray, List.set_cons_zero, List.set_cons_succ]
  refine wpAnyH_ready (rs := [22]) (by kernel_rfl) (by simp) ?_
  refine AllReadyH.cons (o := { dst := none, op := Go.Op.store 24 (Go.Operand.tmp 2) (Go.Operand.tmp 56), type := 0, pos := "num.go:183", after := #[{ on := 21, ground := Go.Ground.data }, { on := 21, ground := Go.Ground.chain }, { on := 0, ground := Go.Ground.phase }, { on := 1, ground := Go.Ground.phase }, { on := 2, ground := Go.Ground.phase }, { on := 3, ground := Go.Ground.phase }, { on := 4, ground := Go.Ground.phase }, { on := 5, ground := Go.Ground.phase }, { on := 6, ground := Go.Ground.phase }, { on := 7, ground := Go.Ground.phase }, { on := 8, ground := Go.Ground.phase }, { on := 9, ground := Go.Ground.phase }, { on := 10, ground := Go.Ground.phase }, { on := 11, ground := Go.Ground.phase }, { on := 12, ground := Go.Ground.phase }, { on := 13, ground := Go.Ground.phase }, { on := 14, ground := Go.Ground.phase }, { on := 15, ground := Go.Ground.phase }, { on := 16, ground := Go.Ground.phase }, { on := 17, ground := Go.Ground.phase }, { on := 18, ground := Go.Ground.phase }, { on := 19, ground := Go.Ground.phase }, { on := 20, ground := Go.Ground.phase }, { on := 21, ground := Go.Ground.phase }], guard := none }) rfl (fun K hK => ?_) (AllReadyH.nil)
  focus go_simp
  refine hK.out _ _ ?_ (fun hHeld => ?_)
  · exact ⟨keepset (by omega) (keepset (by omega) (keepcell hb5 (keepcell (W := w) (by repeat (first | exact Below.refl _ _ | with_reducible assumption | refine Below.alloc ?_ (by first | exact Nat.le_refl _ | (simp; done) | (simp; omega) | omega) _ | refine Below.setCell ?_ (by first | exact Nat.le_refl _ | (simp; done) | (simp; omega) | omega) _ | refine Below.drew ?_ | refine bdrewN ?_ _)) ca))), keepset (by omega) (keepset (by omega) (keepcell hb5 (keepcell (W := w) (by repeat (first | exact Below.refl _ _ | with_reducible assumption | refine Below.alloc ?_ (by first | exact Nat.le_refl _ | (simp; done) | (simp; omega) | omega) _ | refine Below.setCell ?_ (by first | exact Nat.le_refl _ | (simp; done) | (simp; omega) | omega) _ | refine Below.drew ?_ | refine bdrewN ?_ _)) ca1))), keepset (by omega) (keepset (by omega) (keepcell hb5 (keepcell (W := w) (by repeat (first | exact Below.refl _ _ | with_reducible assumption | refine Below.alloc ?_ (by first | exact Nat.le_refl _ | (simp; done) | (simp; omega) | omega) _ | refine Below.setCell ?_ (by first | exact Nat.le_refl _ | (simp; done) | (simp; omega) | omega) _ | refine Below.drew ?_ | refine bdrewN ?_ _)) cb))), keepset (by omega) (keepset (by omega) (keepcell hb5 (keepcell (W := w) (by repeat (first | exact Below.refl _ _ | with_reducible assumption | refine Below.alloc ?_ (by first | exact Nat.le_refl _ | (simp; done) | (simp; omega) | omega) _ | refine Below.setCell ?_ (by first | exact Nat.le_refl _ | (simp; done) | (simp; omega) | omega) _ | refine Below.drew ?_ | refine bdrewN ?_ _)) cb1)))⟩
  focus clear hK K
  focus try simp only [Act.put, List.setIfInBounds_toArray, List.set_cons_zero, List.set_cons_succ]
  refine wpAnyH_done (by kernel_rfl) ?_ _
  rotate_left 1
  go_wp2
  have hbw : Below w.heap.size w w5 := by refine Below.trans ?_ (hb5.mono (by first | exact Nat.le_refl _ | (simp; done) | (simp; omega) | omega)); exact (by repeat (first | exact Below.refl _ _ | with_reducible assumption | refine Below.alloc ?_ (by first | exact Nat.le_refl _ | (simp; done) | (simp; omega) | omega) _ | refine Below.setCell ?_ (by first | exact Nat.le_refl _ | (simp; done) | (simp; omega) | omega) _ | refine Below.drew ?_ | refine bdrewN ?_ _))
  exact bodyPost_ret (v := RV X (qh * sg')) (by simp [results, Try.results62, go_sem, K0, K1]) rfl ⟨rfl, (by repeat (first | exact Below.refl _ _ | with_reducible assumption | refine Below.alloc ?_ (by first | exact Nat.le_refl _ | (simp; done) | (simp; omega) | omega) _ | refine Below.setCell ?_ (by first | exact Nat.le_refl _ | (simp; done) | (simp; omega) | omega) _ | refine Below.drew ?_ | refine bdrewN ?_ _))⟩

set_option maxHeartbeats 4000000 in
theorem times1_no (p q r s g h pg rh qh sg' : Int) (ba bb : Nat) (w : World) (hp : In64 p) (hq : In64 q) (hr : In64 r) (hs : In64 s) (q0 : 0 < q) (s0 : 0 < s)
    (ca : w.cell? ⟨ba, 0, none⟩ = some (.int .i64 p)) (ca1 : w.cell? ⟨ba, 1, none⟩ = some (.int .i64 q)) (cb : w.cell? ⟨bb, 0, none⟩ = some (.int .i64 r)) (cb1 : w.cell? ⟨bb, 1, none⟩ = some (.int .i64 s))
    (hg : (Int.gcd p s : Int) = g) (hh : (Int.gcd r q : Int) = h) (hpg : sz p / g = pg) (hrh : sz r / h = rh) (hqh : q / h = qh) (hsg : s / g = sg')
    (X : Int) (hX : (if sg p r = true then -(pg * rh) else pg * rh) = X) (hfit : ¬ (In64 X ∧ In64 (qh * sg'))) :
    Calls Try.prog 62 #[.pointer (some ⟨ba, 0, none⟩), .pointer (some ⟨bb, 0, none⟩)] w fun e w' => e = .panicked LargeP ∧ Below w.heap.size w w' := by
  have sp := Lib.hid (fun W0 => size_any p W0 hp.1 hp.2)
  have sq := Lib.hid (fun W0 => size_any q W0 hq.1 hq.2)
  have sr := Lib.hid (fun W0 => size_any r W0 hr.1 hr.2)
  have ss := Lib.hid (fun W0 => size_any s W0 hs.1 hs.2)
  have zq : sz q = q := by unfold sz; rw [if_neg (by omega)]
  have zs : sz s = s := by unfold sz; rw [if_neg (by omega)]
  rw [zq] at sq
  rw [zs] at ss
  have a1 := sz_nonneg p
  have a2 := sz_le hp.1 hp.2
  have b1 := sz_nonneg r
  have b2 := sz_le hr.1 hr.2
  have qlt := hq.2
  have slt := hs.2
  have G1 := Lib.hid (fun W0 => gcd_any (sz p) s W0 a1 (by omega) (by omega) (by omega))
  have G2 := Lib.hid (fun W0 => gcd_any (sz r) q W0 b1 (by omega) (by omega) (by omega))
  rw [show Int.gcd (sz p) s = Int.gcd p s by rw [← gcd_sz p s, zs], hg] at G1
  rw [show Int.gcd (sz r) q = Int.gcd r q by rw [← gcd_sz r q, zq], hh] at G2
  have g0 : 0 < g := by rw [← hg]; exact gcd_pos (by omega)
  have h0 : 0 < h := by rw [← hh]; exact gcd_pos (by omega)
  have g1 : g ≤ s := by
    rw [← hg]
    have := Int.gcd_le_natAbs_right (a := p) (b := s) (by omega)
    omega
  have h1 : h ≤ q := by
    rw [← hh]
    have := Int.gcd_le_natAbs_right (a := r) (b := q) (by omega)
    omega
  have gn : ¬ g = 0 := by omega
  have hn : ¬ h = 0 := by omega
  have e1 : IntKind.u64.wrap ((sz p).tdiv g) = pg := by rw [div_spell a1 (by omega) g0, hpg]
  have e2 : IntKind.u64.wrap ((sz r).tdiv h) = rh := by rw [div_spell b1 (by omega) h0, hrh]
  have bp := ediv_bound a1 a2 g0
  have br := ediv_bound b1 b2 h0
  rw [hpg] at bp
  rw [hrh] at br
  have bq := ediv_bound (a := q) (by omega) (Int.le_refl _) h0
  have bs := ediv_bound (a := s) (by omega) (Int.le_refl _) g0
  rw [hqh] at bq
  rw [hsg] at bs
  have i1 : In64 qh := ⟨by omega, by omega⟩
  have i2 : In64 sg' := ⟨by omega, by omega⟩
  have wg' : IntKind.i64.wrap g = g := wrapi_in ⟨by omega, by omega⟩
  have wh' : IntKind.i64.wrap h = h := wrapi_in ⟨by omega, by omega⟩
  have e3 : q.tdiv h = qh := by rw [Int.tdiv_eq_ediv_of_nonneg (by omega), hqh]
  have e4 : s.tdiv g = sg' := by rw [Int.tdiv_eq_ediv_of_nonneg (by omega), hsg]
  have e5 := wrapi_in i1
  have e6 := wrapi_in i2
  have MU := Lib.hid (fun W0 => mul64_any pg rh W0 bp.1 (by omega) br.1 (by omega))
  have PR := Lib.hid (fun W0 => product_any qh sg' W0 i1.1 i1.2 i2.1 i2.2)
  have RR := Lib.hid (fun W0 => rat_no (hX ▸ wv_sizes (sg p r) bp.1 bp.2 br.1 br.2) (wv_mul i1 i2) hfit W0)
  have hsgn := sg_spell p r
  have hz : w.heap.size < w.heap.size + 1 := by omega
  have la := cell_lt ca
  have lb := cell_lt cb
  clear hp hq hr hs q0 s0 hg hh hpg hrh hqh hsg hfit hX zq zs a1 a2 b1 b2 qlt slt g0 h0 g1 h1 bp br bq bs i1 i2
  generalize pg * rh / 18446744073709551616 = hi at *
  generalize pg * rh % 18446744073709551616 = lo at *
  go_enter Try.func62, Try.ntmps62
  go_wp2
  refine wp_region_held_drew (S := (fun w' => w'.cell? ⟨ba, 0, none⟩ = some (.int .i64 p) ∧ w'.cell? ⟨ba, 1, none⟩ = some (.int .i64 q) ∧ w'.cell? ⟨bb, 0, none⟩ = some (.int .i64 r) ∧ w'.cell? ⟨bb, 1, none⟩ = some (.int .i64 s))) (by kernel_rfl) ?_ (fun hHeld => ?_)
  · exact ⟨keepcell (W := w) (by repeat (first | exact Below.refl _ _ | with_reducible assumption | refine Below.alloc ?_ (by first | exact Nat.le_refl _ | (simp; done) | (simp; omega) | omega) _ | refine Below.setCell ?_ (by first | exact Nat.le_refl _ | (simp; done) | (simp; omega) | omega) _ | refine Below.drew ?_ | refine bdrewN ?_ _)) ca, keepcell (W := w) (by repeat (first | exact Below.refl _ _ | with_reducible assumption | refine Below.alloc ?_ (by first | exact Nat.le_refl _ | (simp; done) | (simp; omega) | omega) _ | refine Below.setCell ?_ (by first | exact Nat.le_refl _ | (simp; done) | (simp; omega) | omega) _ | refine Below.drew ?_ | refine bdrewN ?_ _)) ca1, keepcell (W := w) (by repeat (first | exact Below.refl _ _ | with_reducible assumption | refine Below.alloc ?_ (by first | exact Nat.le_refl _ | (simp; done) | (simp; omega) | omega) _ | refine Below.setCell ?_ (by first | exact Nat.le_refl _ | (simp; done) | (simp; omega) | omega) _ | refine Below.drew ?_ | refine bdrewN ?_ _)) cb, keepcell (W := w) (by repeat (first | exact Below.refl _ _ | with_reducible assumption | refine Below.alloc ?_ (by first | exact Nat.le_refl _ | (simp; done) | (simp; omega) | omega) _ | refine Below.setCell ?_ (by first | exact Nat.le_refl _ | (simp; done) | (simp; omega) | omega) _ | refine Below.drew ?_ | refine bdrewN ?_ _)) cb1⟩
  refine wpAnyH_take (i := 0) (oi := { dst := some 7, op := Go.Op.fieldAddr 24 (Go.Operand.tmp 0) 0, type := 0, pos := "num.go:181", after := #[], guard := none }) (v := ?_) rfl (by kernel_rfl) (by kernel_rfl) (by kernel_rfl) (fun _ _ _ h => h) (Or.inl ⟨by rfl, ?_⟩) (by assumption) ?_
  rotate_left 1
  · intro w_ hSw; (try dsimp only at hSw); go_simp; all_goals (with_reducible rfl)
  focus try simp only [Act.put, List.setIfInBounds_toArray, List.set_cons_zero, List.set_cons_succ]
  refine wpAnyH_take (i := 1) (oi := { dst := some 8, op := Go.Op.load 2 (Go.Operand.tmp 7), type := 2, pos := "num.go:181", after := #[{ on := 0, ground := Go.Ground.data }], guard := none }) (v := ?_) rfl (by kernel_rfl) (by kernel_rfl) (by kernel_rfl) (fun _ _ _ h => h) (Or.inl ⟨by rfl, ?_⟩) (by assumption) ?_
  rotate_left 1
  · intro w_ hSw; (try dsimp only at hSw); go_simp; all_goals (with_reducible rfl)
  focus try simp only [Act.put, List.setIfInBounds_toArray, List.set_cons_zero, List.set_cons_succ]
  refine wpAnyH_take (i := 3) (oi := { dst := some 10, op := Go.Op.fieldAddr 24 (Go.Operand.tmp 1) 1, type := 0, pos := "num.go:181", after := #[], guard := none }) (v := ?_) rfl (by kernel_rfl) (by kernel_rfl) (by kernel_rfl) (fun _ _ _ h => h) (Or.inl ⟨by rfl, ?_⟩) (by assumption) ?_
  rotate_left 1
  · intro w_ hSw; (try dsimp only at hSw); go_simp; all_goals (with_reducible rfl)
  focus try simp only [Act.put, List.setIfInBounds_toArray, List.set_cons_zero, List.set_cons_succ]
  refine wpAnyH_take (i := 4) (oi := { dst := some 11, op := Go.Op.load 2 (Go.Operand.tmp 10), type := 2, pos := "num.go:181", after := #[{ on := 3, ground := Go.Ground.data }], guard := none }) (v := ?_) rfl (by kernel_rfl) (by kernel_rfl) (by kernel_rfl) (fun _ _ _ h => h) (Or.inl ⟨by rfl, ?_⟩) (by assumption) ?_
  rotate_left 1
  · intro w_ hSw; (try dsimp only at hSw); go_simp; all_goals (with_reducible rfl)
  focus try simp only [Act.put, List.setIfInBounds_toArray, List.set_cons_zero, List.set_cons_succ]
  refine wpAnyH_take (i := 7) (oi := { dst := some 14, op := Go.Op.fieldAddr 24 (Go.Operand.tmp 1) 0, type := 0, pos := "num.go:181", after := #[], guard := none }) (v := ?_) rfl (by kernel_rfl) (by kernel_rfl) (by kernel_rfl) (fun _ _ _ h => h) (Or.inl ⟨by rfl, ?_⟩) (by assumption) ?_
  rotate_left 1
  · intro w_ hSw; (try dsimp only at hSw); go_simp; all_goals (with_reducible rfl)
  focus try simp only [Act.put, List.setIfInBounds_toArray, List.set_cons_zero, List.set_cons_succ]
  refine wpAnyH_take (i := 8) (oi := { dst := some 15, op := Go.Op.load 2 (Go.Operand.tmp 14), type := 2, pos := "num.go:181", after := #[{ on := 7, ground := Go.Ground.data }], guard := none }) (v := ?_) rfl (by kernel_rfl) (by kernel_rfl) (by kernel_rfl) (fun _ _ _ h => h) (Or.inl ⟨by rfl, ?_⟩) (by assumption) ?_
  rotate_left 1
  · intro w_ hSw; (try dsimp only at hSw); go_simp; all_goals (with_reducible rfl)
  focus try simp only [Act.put, List.setIfInBounds_toArray, List.set_cons_zero, List.set_cons_succ]
  refine wpAnyH_take (i := 10) (oi := { dst := some 17, op := Go.Op.fieldAddr 24 (Go.Operand.tmp 0) 1, type := 0, pos := "num.go:181", after := #[], guard := none }) (v := ?_) rfl (by kernel_rfl) (by kernel_rfl) (by kernel_rfl) (fun _ _ _ h => h) (Or.inl ⟨by rfl, ?_⟩) (by assumption) ?_
  rotate_left 1
  · intro w_ hSw; (try dsimp only at hSw); go_simp; all_goals (with_reducible rfl)
  focus try simp only [Act.put, List.setIfInBounds_toArray, List.set_cons_zero, List.set_cons_succ]
  refine wpAnyH_take (i := 11) (oi := { dst := some 18, op := Go.Op.load 2 (Go.Operand.tmp 17), type := 2, pos := "num.go:181", after := #[{ on := 10, ground := Go.Ground.data }], guard := none }) (v := ?_) rfl (by kernel_rfl) (by kernel_rfl) (by kernel_rfl) (fun _ _ _ h => h) (Or.inl ⟨by rfl, ?_⟩) (by assumption) ?_
  rotate_left 1
  · intro w_ hSw; (try dsimp only at hSw); go_simp; all_goals (with_reducible rfl)
  focus try simp only [Act.put, List.setIfInBounds_toArray, List.set_cons_zero, List.set_cons_succ]
  refine wpAnyH_ready (rs := [2]) (by kernel_rfl) (by simp) ?_
  refine AllReadyH.cons (o := { dst := some 9, op := Go.Op.call { callee := Go.Callee.value (Go.Operand.func 45), args := #[Go.Operand.tmp 8], argTypes := #[2] }, type := 54, pos := "num.go:181", after := #[{ on := 1, ground := Go.Ground.data }], guard := none }) rfl (fun K hK => ?_) (AllReadyH.nil)
  focus go_simp
  focus (refine (sp.out _).mono ?_; rintro e w1 ⟨rfl, rfl⟩)
  focus try simp only []
  refine hK.out _ _ ?_ (fun hHeld => ?_)
  · exact ⟨keepcell (W := w) (by repeat (first | exact Below.refl _ _ | with_reducible assumption | refine Below.alloc ?_ (by first | exact Nat.le_refl _ | (simp; done) | (simp; omega) | omega) _ | refine Below.setCell ?_ (by first | exact Nat.le_refl _ | (simp; done) | (simp; omega) | omega) _ | refine Below.drew ?_ | refine bdrewN ?_ _)) ca, keepcell (W := w) (by repeat (first | exact Below.refl _ _ | with_reducible assumption | refine Below.alloc ?_ (by first | exact Nat.le_refl _ | (simp; done) | (simp; omega) | omega) _ | refine Below.setCell ?_ (by first | exact Nat.le_refl _ | (simp; done) | (simp; omega) | omega) _ | refine Below.drew ?_ | refine bdrewN ?_ _)) ca1, keepcell (W := w) (by repeat (first | exact Below.refl _ _ | with_reducible assumption | refine Below.alloc ?_ (by first | exact Nat.le_refl _ | (simp; done) | (simp; omega) | omega) _ | refine Below.setCell ?_ (by first | exact Nat.le_refl _ | (simp; done) | (simp; omega) | omega) _ | refine Below.drew ?_ | refine bdrewN ?_ _)) cb, keepcell (W := w) (by repeat (first | exact Below.refl _ _ | with_reducible assumption | refine Below.alloc ?_ (by first | exact Nat.le_refl _ | (simp; done) | (simp; omega) | omega) _ | refine Below.setCell ?_ (by first | exact Nat.le_refl _ | (simp; done) | (simp; omega) | omega) _ | refine Below.drew ?_ | refine bdrewN ?_ _)) cb1⟩
  focus clear hK K
  focus try simp only [Act.put, List.setIfInBounds_toArray, List.set_cons_zero, List.set_cons_succ]
  refine wpAnyH_ready (rs := [5]) (by kernel_rfl) (by simp) ?_
  refine AllReadyH.cons (o := { dst := some 12, op := Go.Op.call { callee := Go.Callee.value (Go.Operand.func 45), args := #[Go.Operand.tmp 11], argTypes := #[2] }, type := 54, pos := "num.go:181", after := #[{ on := 4, ground := Go.Ground.data }, { on := 2, ground := Go.Ground.chain }], guard := none }) rfl (fun K hK => ?_) (AllReadyH.nil)
  focus go_simp
  focus (refine (ss.out _).mono ?_; rintro e w1 ⟨rfl, rfl⟩)
  focus try simp only []
  refine hK.out _ _ ?_ (fun hHeld => ?_)
  · exact ⟨keepcell (W := w) (by repeat (first | exact Below.refl _ _ | with_reducible assumption | refine Below.alloc ?_ (by first | exact Nat.le_refl _ | (simp; done) | (simp; omega) | omega) _ | refine Below.setCell ?_ (by first | exact Nat.le_refl _ | (simp; done) | (simp; omega) | omega) _ | refine Below.drew ?_ | refine bdrewN ?_ _)) ca, keepcell (W := w) (by repeat (first | exact Below.refl _ _ | with_reducible assumption | refine Below.alloc ?_ (by first | exact Nat.le_refl _ | (simp; done) | (simp; omega) | omega) _ | refine Below.setCell ?_ (by first | exact Nat.le_refl _ | (simp; done) | (simp; omega) | omega) _ | refine Below.drew ?_ | refine bdrewN ?_ _)) ca1, keepcell (W := w) (by repeat (first | exact Below.refl _ _ | with_reducible assumption | refine Below.alloc ?_ (by first | exact Nat.le_refl _ | (simp; done) | (simp; omega) | omega) _ | refine Below.setCell ?_ (by first | exact Nat.le_refl _ | (simp; done) | (simp; omega) | omega) _ | refine Below.drew ?_ | refine bdrewN ?_ _)) cb, keepcell (W := w) (by repeat (first | exact Below.refl _ _ | with_reducible assumption | refine Below.alloc ?_ (by first | exact Nat.le_refl _ | (simp; done) | (simp; omega) | omega) _ | refine Below.setCell ?_ (by first | exact Nat.le_refl _ | (simp; done) | (simp; omega) | omega) _ | refine Below.drew ?_ | refine bdrewN ?_ _)) cb1⟩
  focus clear hK K
  focus try simp only [Act.put, List.setIfInBounds_toArray, List.set_cons_zero, List.set_cons_succ]
  refine wpAnyH_ready (rs := [6]) (by kernel_rfl) (by simp) ?_
  refine AllReadyH.cons (o := { dst := some 13, op := Go.Op.call { callee := Go.Callee.value (Go.Operand.func 44), args := #[Go.Operand.tmp 9, Go.Operand.tmp 12], argTypes := #[54, 54] }, type := 54, pos := "num.go:181", after := #[{ on := 2, ground := Go.Ground.data }, { on := 5, ground := Go.Ground.data }, { on := 5, ground := Go.Ground.chain }], guard := none }) rfl (fun K hK => ?_) (AllReadyH.nil)
  focus go_simp
  focus (refine (G1.out _).mono ?_; rintro e w1 ⟨rfl, n1, rfl⟩)
  focus try simp only []
  refine hK.out _ _ ?_ (fun hHeld => ?_)
  · exact ⟨keepcell (W := w) (by repeat (first | exact Below.refl _ _ | with_reducible assumption | refine Below.alloc ?_ (by first | exact Nat.le_refl _ | (simp; done) | (simp; omega) | omega) _ | refine Below.setCell ?_ (by first | exact Nat.le_refl _ | (simp; done) | (simp; omega) | omega) _ | refine Below.drew ?_ | refine bdrewN ?_ _)) ca, keepcell (W := w) (by repeat (first | exact Below.refl _ _ | with_reducible assumption | refine Below.alloc ?_ (by first | exact Nat.le_refl _ | (simp; done) | (simp; omega) | omega) _ | refine Below.setCell ?_ (by first | exact Nat.le_refl _ | (simp; done) | (simp; omega) | omega) _ | refine Below.drew ?_ | refine bdrewN ?_ _)) ca1, keepcell (W := w) (by repeat (first | exact Below.refl _ _ | with_reducible assumption | refine Below.alloc ?_ (by first | exact Nat.le_refl _ | (simp; done) | (simp; omega) | omega) _ | refine Below.setCell ?_ (by first | exact Nat.le_refl _ | (simp; done) | (simp; omega) | omega) _ | refine Below.drew ?_ | refine bdrewN ?_ _)) cb, keepcell (W := w) (by repeat (first | exact Below.refl _ _ | with_reducible assumption | refine Below.alloc ?_ (by first | exact Nat.le_refl _ | (simp; done) | (simp; omega) | omega) _ | refine Below.setCell ?_ (by first | exact Nat.le_refl _ | (simp; done) | (simp; omega) | omega) _ | refine Below.drew ?_ | refine bdrewN ?_ _)) cb1⟩
  focus clear hK K
  focus try simp only [Act.put, List.setIfInBounds_toArray, List.set_cons_zero, List.set_cons_succ]
  refine wpAnyH_ready (rs := [9]) (by kernel_rfl) (by simp) ?_
  refine AllReadyH.cons (o := { dst := some 16, op := Go.Op.call { callee := Go.Callee.value (Go.Operand.func 45), args := #[Go.Operand.tmp 15], argTypes := #[2] }, type := 54, pos := "num.go:181", after := #[{ on := 8, ground := Go.Ground.data }, { on := 6, ground := Go.Ground.chain }], guard := none }) rfl (fun K hK => ?_) (AllReadyH.nil)
  focus go_simp
  focus (refine (sr.out _).mono ?_; rintro e w1 ⟨rfl, rfl⟩)
  focus try simp only []
  refine hK.out _ _ ?_ (fun hHeld => ?_)
  · exact ⟨keepcell (W := w) (by repeat (first | exact Below.refl _ _ | with_reducible assumption | refine Below.alloc ?_ (by first | exact Nat.le_refl _ | (simp; done) | (simp; omega) | omega) _ | refine Below.setCell ?_ (by first | exact Nat.le_refl _ | (simp; done) | (simp; omega) | omega) _ | refine Below.drew ?_ | refine bdrewN ?_ _)) ca, keepcell (W := w) (by repeat (first | exact Below.refl _ _ | with_reducible assumption | refine Below.alloc ?_ (by first | exact Nat.le_refl _ | (simp; done) | (simp; omega) | omega) _ | refine Below.setCell ?_ (by first | exact Nat.le_refl _ | (simp; done) | (simp; omega) | omega) _ | refine Below.drew ?_ | refine bdrewN ?_ _)) ca1, keepcell (W := w) (by repeat (first | exact Below.refl _ _ | with_reducible assumption | refine Below.alloc ?_ (by first | exact Nat.le_refl _ | (simp; done) | (simp; omega) | omega) _ | refine Below.setCell ?_ (by first | exact Nat.le_refl _ | (simp; done) | (simp; omega) | omega) _ | refine Below.drew ?_ | refine bdrewN ?_ _)) cb, keepcell (W := w) (by repeat (first | exact Below.refl _ _ | with_reducible assumption | refine Below.alloc ?_ (by first | exact Nat.le_refl _ | (simp; done) | (simp; omega) | omega) _ | refine Below.setCell ?_ (by first | exact Nat.le_refl _ | (simp; done) | (simp; omega) | omega) _ | refine Below.drew ?_ | refine bdrewN ?_ _)) cb1⟩
  focus clear hK K
  focus try simp only [Act.put, List.setIfInBounds_toArray, List.set_cons_zero, List.set_cons_succ]
  refine wpAnyH_ready (rs := [12]) (by kernel_rfl) (by simp) ?_
  refine AllReadyH.cons (o := { dst := some 19, op := Go.Op.call { callee := Go.Callee.value (Go.Operand.func 45), args := #[Go.Operand.tmp 18], argTypes := #[2] }, type := 54, pos := "num.go:181", after := #[{ on := 11, ground := Go.Ground.data }, { on := 9, ground := Go.Ground.chain }], guard := none }) rfl (fun K hK => ?_) (AllReadyH.nil)
  focus go_simp
  focus (refine (sq.out _).mono ?_; rintro e w1 ⟨rfl, rfl⟩)
  focus try simp only []
  refine hK.out _ _ ?_ (fun hHeld => ?_)
  · exact ⟨keepcell (W := w) (by repeat (first | exact Below.refl _ _ | with_reducible assumption | refine Below.alloc ?_ (by first | exact Nat.le_refl _ | (simp; done) | (simp; omega) | omega) _ | refine Below.setCell ?_ (by first | exact Nat.le_refl _ | (simp; done) | (simp; omega) | omega) _ | refine Below.drew ?_ | refine bdrewN ?_ _)) ca, keepcell (W := w) (by repeat (first | exact Below.refl _ _ | with_reducible assumption | refine Below.alloc ?_ (by first | exact Nat.le_refl _ | (simp; done) | (simp; omega) | omega) _ | refine Below.setCell ?_ (by first | exact Nat.le_refl _ | (simp; done) | (simp; omega) | omega) _ | refine Below.drew ?_ | refine bdrewN ?_ _)) ca1, keepcell (W := w) (by repeat (first | exact Below.refl _ _ | with_reducible assumption | refine Below.alloc ?_ (by first | exact Nat.le_refl _ | (simp; done) | (simp; omega) | omega) _ | refine Below.setCell ?_ (by first | exact Nat.le_refl _ | (simp; done) | (simp; omega) | omega) _ | refine Below.drew ?_ | refine bdrewN ?_ _)) cb, keepcell (W := w) (by repeat (first | exact Below.refl _ _ | with_reducible assumption | refine Below.alloc ?_ (by first | exact Nat.le_refl _ | (simp; done) | (simp; omega) | omega) _ | refine Below.setCell ?_ (by first | exact Nat.le_refl _ | (simp; done) | (simp; omega) | omega) _ | refine Below.drew ?_ | refine bdrewN ?_ _)) cb1⟩
  focus clear hK K
  focus try simp only [Act.put, List.setIfInBounds_toArray, List.set_cons_zero, List.set_cons_succ]
  refine wpAnyH_ready (rs := [13]) (by kernel_rfl) (by simp) ?_
  refine AllReadyH.cons (o := { dst := some 20, op := Go.Op.call { callee := Go.Callee.value (Go.Operand.func 44), args := #[Go.Operand.tmp 16, Go.Operand.tmp 19], argTypes := #[54, 54] }, type := 54, pos := "num.go:181", after := #[{ on := 9, ground := Go.Ground.data }, { on := 12, ground := Go.Ground.data }, { on := 12, ground := Go.Ground.chain }], guard := none }) rfl (fun K hK => ?_) (AllReadyH.nil)
  focus go_simp
  focus (refine (G2.out _).mono ?_; rintro e w1 ⟨rfl, n2, rfl⟩)
  focus try simp only []
  refine hK.out _ _ ?_ (fun hHeld => ?_)
  · exact ⟨keepcell (W := w) (by repeat (first | exact Below.refl _ _ | with_reducible assumption | refine Below.alloc ?_ (by first | exact Nat.le_refl _ | (simp; done) | (simp; omega) | omega) _ | refine Below.setCell ?_ (by first | exact Nat.le_refl _ | (simp; done) | (simp; omega) | omega) _ | refine Below.drew ?_ | refine bdrewN ?_ _)) ca, keepcell (W := w) (by repeat (first | exact Below.refl _ _ | with_reducible assumption | refine Below.alloc ?_ (by first | exact Nat.le_refl _ | (simp; done) | (simp; omega) | omega) _ | refine Below.setCell ?_ (by first | exact Nat.le_refl _ | (simp; done) | (simp; omega) | omega) _ | refine Below.drew ?_ | refine bdrewN ?_ _)) ca1, keepcell (W := w) (by repeat (first | exact Below.refl _ _ | with_reducible assumption | refine Below.alloc ?_ (by first | exact Nat.le_refl _ | (simp; done) | (simp; omega) | omega) _ | refine Below.setCell ?_ (by first | exact Nat.le_refl _ | (simp; done) | (simp; omega) | omega) _ | refine Below.drew ?_ | refine bdrewN ?_ _)) cb, keepcell (W := w) (by repeat (first | exact Below.refl _ _ | with_reducible assumption | refine Below.alloc ?_ (by first | exact Nat.le_refl _ | (simp; done) | (simp; omega) | omega) _ | refine Below.setCell ?_ (by first | exact Nat.le_refl _ | (simp; done) | (simp; omega) | omega) _ | refine Below.drew ?_ | refine bdrewN ?_ _)) cb1⟩
  focus clear hK K
  focus try simp only [Act.put, List.setIfInBounds_toArray, List.set_cons_zero, List.set_cons_succ]
  refine wpAnyH_take (i := 14) (oi := { dst := some 3, op := Go.Op.assign (Go.Operand.tmp 13), type := 54, pos := "num.go:181", after := #[{ on := 6, ground := Go.Ground.data }, { on := 13, ground := Go.Ground.chain }, { on := 0, ground := Go.Ground.phase }, { on := 1, ground := Go.Ground.phase }, { on := 2, ground := Go.Ground.phase }, { on := 3, ground := Go.Ground.phase }, { on := 4, ground := Go.Ground.phase }, { on := 5, ground := Go.Ground.phase }, { on := 6, ground := Go.Ground.phase }, { on := 7, ground := Go.Ground.textOnly Go.Departure.lateStores }, { on := 8, ground := Go.Ground.textOnly Go.Departure.lateStores }, { on := 9, ground := Go.Ground.textOnly Go.Departure.lateStoresUnsure }, { on := 10, ground := Go.Ground.textOnly Go.Departure.lateStores }, { on := 11, ground := Go.Ground.textOnly Go.Departure.lateStores }, { on := 12, ground := Go.Ground.textOnly Go.Departure.lateStoresUnsure }, { on := 13, ground := Go.Ground.textOnly Go.Departure.lateStoresUnsure }], guard := none }) (v := ?_) rfl (by kernel_rfl) (by kernel_rfl) (by kernel_rfl) (fun _ _ _ h => h) (Or.inl ⟨by rfl, ?_⟩) (by assumption) ?_
  rotate_left 1
  · intro w_ hSw; (try dsimp only at hSw); go_simp; all_goals (with_reducible rfl)
  focus try simp only [Act.put, List.setIfInBounds_toArray, List.set_cons_zero, List.set_cons_succ]
  refine wpAnyH_take (i := 15) (oi := { dst := some 4, op := Go.Op.assign (Go.Operand.tmp 20), type := 54, pos := "num.go:181", after := #[{ on := 13, ground := Go.Ground.data }, { on := 14, ground := Go.Ground.chain }, { on := 0, ground := Go.Ground.phase }, { on := 1, ground := Go.Ground.phase }, { on := 2, ground := Go.Ground.phase }, { on := 3, ground := Go.Ground.phase }, { on := 4, ground := Go.Ground.phase }, { on := 5, ground := Go.Ground.phase }, { on := 6, ground := Go.Ground.phase }, { on := 7, ground := Go.Ground.phase }, { on := 8, ground := Go.Ground.phase }, { on := 9, ground := Go.Ground.phase }, { on := 10, ground := Go.Ground.phase }, { on := 11, ground := Go.Ground.phase }, { on := 12, ground := Go.Ground.phase }, { on := 13, ground := Go.Ground.phase }, { on := 14, ground := Go.Ground.phase }], guard := none }) (v := ?_) rfl (by kernel_rfl) (by kernel_rfl) (by kernel_rfl) (fun _ _ _ h => h) (Or.inl ⟨by rfl, ?_⟩) (by assumption) ?_
  rotate_left 1
  · intro w_ hSw; (try dsimp only at hSw); go_simp; all_goals (with_reducible rfl)
  focus try simp only [Act.put, List.setIfInBounds_toArray, List.set_cons_zero, List.set_cons_succ]
  refine wpAnyH_done (by kernel_rfl) ?_ _
  rotate_left 1
  go_upto_region 2 with (fail)
  refine wp_region_held_drew (S := (fun w' => w'.cell? ⟨ba, 0, none⟩ = some (.int .i64 p) ∧ w'.cell? ⟨ba, 1, none⟩ = some (.int .i64 q) ∧ w'.cell? ⟨bb, 0, none⟩ = some (.int .i64 r) ∧ w'.cell? ⟨bb, 1, none⟩ = some (.int .i64 s))) (by kernel_rfl) ?_ (fun hHeld => ?_)
  · exact ⟨keepcell (W := w) (by repeat (first | exact Below.refl _ _ | with_reducible assumption | refine Below.alloc ?_ (by first | exact Nat.le_refl _ | (simp; done) | (simp; omega) | omega) _ | refine Below.setCell ?_ (by first | exact Nat.le_refl _ | (simp; done) | (simp; omega) | omega) _ | refine Below.drew ?_ | refine bdrewN ?_ _)) ca, keepcell (W := w) (by repeat (first | exact Below.refl _ _ | with_reducible assumption | refine Below.alloc ?_ (by first | exact Nat.le_refl _ | (simp; done) | (simp; omega) | omega) _ | refine Below.setCell ?_ (by first | exact Nat.le_refl _ | (simp; done) | (simp; omega) | omega) _ | refine Below.drew ?_ | refine bdrewN ?_ _)) ca1, keepcell (W := w) (by repeat (first | exact Below.refl _ _ | with_reducible assumption | refine Below.alloc ?_ (by first | exact Nat.le_refl _ | (simp; done) | (simp; omega) | omega) _ | refine Below.setCell ?_ (by first | exact Nat.le_refl _ | (simp; done) | (simp; omega) | omega) _ | refine Below.drew ?_ | refine bdrewN ?_ _)) cb, keepcell (W := w) (by repeat (first | exact Below.refl _ _ | with_reducible assumption | refine Below.alloc ?_ (by first | exact Nat.le_refl _ | (simp; done) | (simp; omega) | omega) _ | refine Below.setCell ?_ (by first | exact Nat.le_refl _ | (simp; done) | (simp; omega) | omega) _ | refine Below.drew ?_ | refine bdrewN ?_ _)) cb1⟩
  refine wpAnyH_take (i := 0) (oi := { dst := some 22, op := Go.Op.fieldAddr 24 (Go.Operand.tmp 0) 0, type := 0, pos := "num.go:182", after := #[], guard := none }) (v := ?_) rfl (by kernel_rfl) (by kernel_rfl) (by kernel_rfl) (fun _ _ _ h => h) (Or.inl ⟨by rfl, ?_⟩) (by assumption) ?_
  rotate_left 1
  · intro w_ hSw; (try dsimp only at hSw); go_simp; all_goals (with_reducible rfl)
  focus try simp only [Act.put, List.setIfInBounds_toArray, List.set_cons_zero, List.set_cons_succ]
  refine wpAnyH_take (i := 1) (oi := { dst := some 23, op := Go.Op.load 2 (Go.Operand.tmp 22), type := 2, pos := "num.go:182", after := #[{ on := 0, ground := Go.Ground.data }], guard := none }) (v := ?_) rfl (by kernel_rfl) (by kernel_rfl) (by kernel_rfl) (fun _ _ _ h => h) (Or.inl ⟨by rfl, ?_⟩) (by assumption) ?_
  rotate_left 1
  · intro w_ hSw; (try dsimp only at hSw); go_simp; all_goals (with_reducible rfl)
  focus try simp only [Act.put, List.setIfInBounds_toArray, List.set_cons_zero, List.set_cons_succ]
  refine wpAnyH_take (i := 3) (oi := { dst := some 25, op := Go.Op.move (Go.Operand.tmp 3), type := 54, pos := "num.go:182", after := #[], guard := none }) (v := ?_) rfl (by kernel_rfl) (by kernel_rfl) (by kernel_rfl) (fun _ _ _ h => h) (Or.inl ⟨by rfl, ?_⟩) (by assumption) ?_
  rotate_left 1
  · intro w_ hSw; (try dsimp only at hSw); go_simp; all_goals (with_reducible rfl)
  focus try simp only [Act.put, List.setIfInBounds_toArray, List.set_cons_zero, List.set_cons_succ]
  refine wpAnyH_take (i := 5) (oi := { dst := some 27, op := Go.Op.fieldAddr 24 (Go.Operand.tmp 1) 0, type := 0, pos := "num.go:182", after := #[], guard := none }) (v := ?_) rfl (by kernel_rfl) (by kernel_rfl) (by kernel_rfl) (fun _ _ _ h => h) (Or.inl ⟨by rfl, ?_⟩) (by assumption) ?_
  rotate_left 1
  · intro w_ hSw; (try dsimp only at hSw); go_simp; all_goals (with_reducible rfl)
  focus try simp only [Act.put, List.setIfInBounds_toArray, List.set_cons_zero, List.set_cons_succ]
  refine wpAnyH_take (i := 6) (oi := { dst := some 28, op := Go.Op.load 2 (Go.Operand.tmp 27), type := 2, pos := "num.go:182", after := #[{ on := 5, ground := Go.Ground.data }], guard := none }) (v := ?_) rfl (by kernel_rfl) (by kernel_rfl) (by kernel_rfl) (fun _ _ _ h => h) (Or.inl ⟨by rfl, ?_⟩) (by assumption) ?_
  rotate_left 1
  · intro w_ hSw; (try dsimp only at hSw); go_simp; all_goals (with_reducible rfl)
  focus try simp only [Act.put, List.setIfInBounds_toArray, List.set_cons_zero, List.set_cons_succ]
  refine wpAnyH_take (i := 8) (oi := { dst := some 30, op := Go.Op.move (Go.Operand.tmp 4), type := 54, pos := "num.go:182", after := #[], guard := none }) (v := ?_) rfl (by kernel_rfl) (by kernel_rfl) (by kernel_rfl) (fun _ _ _ h => h) (Or.inl ⟨by rfl, ?_⟩) (by assumption) ?_
  rotate_left 1
  · intro w_ hSw; (try dsimp only at hSw); go_simp; all_goals (with_reducible rfl)
  focus try simp only [Act.put, List.setIfInBounds_toArray, List.set_cons_zero, List.set_cons_succ]
  refine wpAnyH_ready (rs := [2]) (by kernel_rfl) (by simp) ?_
  refine AllReadyH.cons (o := { dst := some 24, op := Go.Op.call { callee := Go.Callee.value (Go.Operand.func 45), args := #[Go.Operand.tmp 23], argTypes := #[2] }, type := 54, pos := "num.go:182", after := #[{ on := 1, ground := Go.Ground.data }], guard := none }) rfl (fun K hK => ?_) (AllReadyH.nil)
  focus go_simp
  focus (refine (sp.out _).mono ?_; rintro e w1 ⟨rfl, rfl⟩)
  focus try simp only []
  refine hK.out _ _ ?_ (fun hHeld => ?_)
  · exact ⟨keepcell (W := w) (by repeat (first | exact Below.refl _ _ | with_reducible assumption | refine Below.alloc ?_ (by first | exact Nat.le_refl _ | (simp; done) | (simp; omega) | omega) _ | refine Below.setCell ?_ (by first | exact Nat.le_refl _ | (simp; done) | (simp; omega) | omega) _ | refine Below.drew ?_ | refine bdrewN ?_ _)) ca, keepcell (W := w) (by repeat (first | exact Below.refl _ _ | with_reducible assumption | refine Below.alloc ?_ (by first | exact Nat.le_refl _ | (simp; done) | (simp; omega) | omega) _ | refine Below.setCell ?_ (by first | exact Nat.le_refl _ | (simp; done) | (simp; omega) | omega) _ | refine Below.drew ?_ | refine bdrewN ?_ _)) ca1, keepcell (W := w) (by repeat (first | exact Below.refl _ _ | with_reducible assumption | refine Below.alloc ?_ (by first | exact Nat.le_refl _ | (simp; done) | (simp; omega) | omega) _ | refine Below.setCell ?_ (by first | exact Nat.le_refl _ | (simp; done) | (simp; omega) | omega) _ | refine Below.drew ?_ | refine bdrewN ?_ _)) cb, keepcell (W := w) (by repeat (first | exact Below.refl _ _ | with_reducible assumption | refine Below.alloc ?_ (by first | exact Nat.le_refl _ | (simp; done) | (simp; omega) | omega) _ | refine Below.setCell ?_ (by first | exact Nat.le_refl _ | (simp; done) | (simp; omega) | omega) _ | refine Below.drew ?_ | refine bdrewN ?_ _)) cb1⟩
  focus clear hK K
  focus try simp only [Act.put, List.setIfInBounds_toArray, List.set_cons_zero, List.set_cons_succ]
  refine wpAnyH_take (i := 4) (oi := { dst := some 26, op := Go.Op.binOp Go.BinOp.quo 54 (Go.Operand.tmp 24) (Go.Operand.tmp 25) 54, type := 54, pos := "num.go:182", after := #[{ on := 2, ground := Go.Ground.data }, { on := 3, ground := Go.Ground.data }], guard := none }) (v := ?_) rfl (by kernel_rfl) (by kernel_rfl) (by kernel_rfl) (fun _ _ _ h => h) (Or.inl ⟨by rfl, ?_⟩) (by assumption) ?_
  rotate_left 1
  · intro w_ hSw; (try dsimp only at hSw); go_simp; all_goals (with_reducible rfl)
  focus try simp only [Act.put, List.setIfInBounds_toArray, List.set_cons_zero, List.set_cons_succ]
  refine wpAnyH_ready (rs := [7]) (by kernel_rfl) (by simp) ?_
  refine AllReadyH.cons (o := { dst := some 29, op := Go.Op.call { callee := Go.Callee.value (Go.Operand.func 45), args := #[Go.Operand.tmp 28], argTypes := #[2] }, type := 54, pos := "num.go:182", after := #[{ on := 6, ground := Go.Ground.data }, { on := 2, ground := Go.Ground.chain }], guard := none }) rfl (fun K hK => ?_) (AllReadyH.nil)
  focus go_simp
  focus (refine (sr.out _).mono ?_; rintro e w1 ⟨rfl, rfl⟩)
  focus try simp only []
  refine hK.out _ _ ?_ (fun hHeld => ?_)
  · exact ⟨keepcell (W := w) (by repeat (first | exact Below.refl _ _ | with_reducible assumption | refine Below.alloc ?_ (by first | exact Nat.le_refl _ | (simp; done) | (simp; omega) | omega) _ | refine Below.setCell ?_ (by first | exact Nat.le_refl _ | (simp; done) | (simp; omega) | omega) _ | refine Below.drew ?_ | refine bdrewN ?_ _)) ca, keepcell (W := w) (by repeat (first | exact Below.refl _ _ | with_reducible assumption | refine Below.alloc ?_ (by first | exact Nat.le_refl _ | (simp; done) | (simp; omega) | omega) _ | refine Below.setCell ?_ (by first | exact Nat.le_refl _ | (simp; done) | (simp; omega) | omega) _ | refine Below.drew ?_ | refine bdrewN ?_ _)) ca1, keepcell (W := w) (by repeat (first | exact Below.refl _ _ | with_reducible assumption | refine Below.alloc ?_ (by first | exact Nat.le_refl _ | (simp; done) | (simp; omega) | omega) _ | refine Below.setCell ?_ (by first | exact Nat.le_refl _ | (simp; done) | (simp; omega) | omega) _ | refine Below.drew ?_ | refine bdrewN ?_ _)) cb, keepcell (W := w) (by repeat (first | exact Below.refl _ _ | with_reducible assumption | refine Below.alloc ?_ (by first | exact Nat.le_refl _ | (simp; done) | (simp; omega) | omega) _ | refine Below.setCell ?_ (by first | exact Nat.le_refl _ | (simp; done) | (simp; omega) | omega) _ | refine Below.drew ?_ | refine bdrewN ?_ _)) cb1⟩
  focus clear hK K
  focus try simp only [Act.put, List.setIfInBounds_toArray, List.set_cons_zero, List.set_cons_succ]
  refine wpAnyH_take (i := 9) (oi := { dst := some 31, op := Go.Op.binOp Go.BinOp.quo 54 (Go.Operand.tmp 29) (Go.Operand.tmp 30) 54, type := 54, pos := "num.go:182", after := #[{ on := 7, ground := Go.Ground.data }, { on := 8, ground := Go.Ground.data }], guard := none }) (v := ?_) rfl (by kernel_rfl) (by kernel_rfl) (by kernel_rfl) (fun _ _ _ h => h) (Or.inl ⟨by rfl, ?_⟩) (by assumption) ?_
  rotate_left 1
  · intro w_ hSw; (try dsimp only at hSw); go_simp; all_goals (with_reducible rfl)
  focus try simp only [Act.put, List.setIfInBounds_toArray, List.set_cons_zero, List.set_cons_succ]
  refine wpAnyH_ready (rs := [10]) (by kernel_rfl) (by simp) ?_
  refine AllReadyH.cons (o := { dst := some 32, op := Go.Op.call { callee := Go.Callee.value (Go.Operand.func 63), args := #[Go.Operand.tmp 26, Go.Operand.tmp 31], argTypes := #[54, 54] }, type := 74, pos := "num.go:182", after := #[{ on := 4, ground := Go.Ground.data }, { on := 9, ground := Go.Ground.data }, { on := 7, ground := Go.Ground.chain }], guard := none }) rfl (fun K hK => ?_) (AllReadyH.nil)
  focus go_simp
  focus (refine (MU.out _).mono ?_; rintro e w1 ⟨rfl, rfl⟩)
  focus try simp only []
  refine hK.out _ _ ?_ (fun hHeld => ?_)
  · exact ⟨keepcell (W := w) (by repeat (first | exact Below.refl _ _ | with_reducible assumption | refine Below.alloc ?_ (by first | exact Nat.le_refl _ | (simp; done) | (simp; omega) | omega) _ | refine Below.setCell ?_ (by first | exact Nat.le_refl _ | (simp; done) | (simp; omega) | omega) _ | refine Below.drew ?_ | refine bdrewN ?_ _)) ca, keepcell (W := w) (by repeat (first | exact Below.refl _ _ | with_reducible assumption | refine Below.alloc ?_ (by first | exact Nat.le_refl _ | (simp; done) | (simp; omega) | omega) _ | refine Below.setCell ?_ (by first | exact Nat.le_refl _ | (simp; done) | (simp; omega) | omega) _ | refine Below.drew ?_ | refine bdrewN ?_ _)) ca1, keepcell (W := w) (by repeat (first | exact Below.refl _ _ | with_reducible assumption | refine Below.alloc ?_ (by first | exact Nat.le_refl _ | (simp; done) | (simp; omega) | omega) _ | refine Below.setCell ?_ (by first | exact Nat.le_refl _ | (simp; done) | (simp; omega) | omega) _ | refine Below.drew ?_ | refine bdrewN ?_ _)) cb, keepcell (W := w) (by repeat (first | exact Below.refl _ _ | with_reducible assumption | refine Below.alloc ?_ (by first | exact Nat.le_refl _ | (simp; done) | (simp; omega) | omega) _ | refine Below.setCell ?_ (by first | exact Nat.le_refl _ | (simp; done) | (simp; omega) | omega) _ | refine Below.drew ?_ | refine bdrewN ?_ _)) cb1⟩
  focus clear hK K
  focus try simp only [Act.put, List.setIfInBounds_toArray, List.set_cons_zero, List.set_cons_succ]
  refine wpAnyH_take (i := 11) (oi := { dst := some 21, op := Go.Op.move (Go.Operand.tmp 32), type := 74, pos := "num.go:182", after := #[{ on := 10, ground := Go.Ground.data }], guard := none }) (v := ?_) rfl (by kernel_rfl) (by kernel_rfl) (by kernel_rfl) (fun _ _ _ h => h) (Or.inl ⟨by rfl, ?_⟩) (by assumption) ?_
  rotate_left 1
  · intro w_ hSw; (try dsimp only at hSw); go_simp; all_goals (with_reducible rfl)
  focus try simp only [Act.put, List.setIfInBounds_toArray, List.set_cons_zero, List.set_cons_succ]
  refine wpAnyH_take (i := 12) (oi := { dst := some 33, op := Go.Op.extract (Go.Operand.tmp 21) 0, type := 54, pos := "num.go:182", after := #[{ on := 11, ground := Go.Ground.data }], guard := none }) (v := ?_) rfl (by kernel_rfl) (by kernel_rfl) (by kernel_rfl) (fun _ _ _ h => h) (Or.inl ⟨by rfl, ?_⟩) (by assumption) ?_
  rotate_left 1
  · intro w_ hSw; (try dsimp only at hSw); go_simp; all_goals (with_reducible rfl)
  focus try simp only [Act.put, List.setIfInBounds_toArray, List.set_cons_zero, List.set_cons_succ]
  refine wpAnyH_take (i := 13) (oi := { dst := some 34, op := Go.Op.extract (Go.Operand.tmp 21) 1, type := 54, pos := "num.go:182", after := #[{ on := 11, ground := Go.Ground.data }, { on := 14, ground := Go.Ground.gcOnly Go.Departure.lateStores }], guard := none }) (v := ?_) rfl (by kernel_rfl) (by kernel_rfl) (by kernel_rfl) (fun _ _ _ h => h) (Or.inl ⟨by rfl, ?_⟩) (by assumption) ?_
  rotate_left 1
  · intro w_ hSw; (try dsimp only at hSw); go_simp; all_goals (with_reducible rfl)
  focus try simp only [Act.put, List.setIfInBounds_toArray, List.set_cons_zero, List.set_cons_succ]
  refine wpAnyH_take (i := 14) (oi := { dst := some 5, op := Go.Op.assign (Go.Operand.tmp 33), type := 54, pos := "num.go:182", after := #[{ on := 12, ground := Go.Ground.data }, { on := 10, ground := Go.Ground.chain }, { on := 0, ground := Go.Ground.phase }, { on := 1, ground := Go.Ground.phase }, { on := 2, ground := Go.Ground.phase }, { on := 3, ground := Go.Ground.phase }, { on := 4, ground := Go.Ground.phase }, { on := 5, ground := Go.Ground.phase }, { on := 6, ground := Go.Ground.phase }, { on := 7, ground := Go.Ground.phase }, { on := 8, ground := Go.Ground.phase }, { on := 9, ground := Go.Ground.phase }, { on := 10, ground := Go.Ground.phase }, { on := 11, ground := Go.Ground.phase }, { on := 12, ground := Go.Ground.phase }, { on := 13, ground := Go.Ground.textOnly Go.Departure.lateStores }], guard := none }) (v := ?_) rfl (by kernel_rfl) (by kernel_rfl) (by kernel_rfl) (fun _ _ _ h => h) (Or.inl ⟨by rfl, ?_⟩) (by assumption) ?_
  rotate_left 1
  · intro w_ hSw; (try dsimp only at hSw); go_simp; all_goals (with_reducible rfl)
  focus try simp only [Act.put, List.setIfInBounds_toArray, List.set_cons_zero, List.set_cons_succ]
  refine wpAnyH_take (i := 15) (oi := { dst := some 6, op := Go.Op.assign (Go.Operand.tmp 34), type := 54, pos := "num.go:182", after := #[{ on := 13, ground := Go.Ground.data }, { on := 14, ground := Go.Ground.chain }, { on := 0, ground := Go.Ground.phase }, { on := 1, ground := Go.Ground.phase }, { on := 2, ground := Go.Ground.phase }, { on := 3, ground := Go.Ground.phase }, { on := 4, ground := Go.Ground.phase }, { on := 5, ground := Go.Ground.phase }, { on := 6, ground := Go.Ground.phase }, { on := 7, ground := Go.Ground.phase }, { on := 8, ground := Go.Ground.phase }, { on := 9, ground := Go.Ground.phase }, { on := 10, ground := Go.Ground.phase }, { on := 11, ground := Go.Ground.phase }, { on := 12, ground := Go.Ground.phase }, { on := 13, ground := Go.Ground.phase }, { on := 14, ground := Go.Ground.phase }], guard := none }) (v := ?_) rfl (by kernel_rfl) (by kernel_rfl) (by kernel_rfl) (fun _ _ _ h => h) (Or.inl ⟨by rfl, ?_⟩) (by assumption) ?_
  rotate_left 1
  · intro w_ hSw; (try dsimp only at hSw); go_simp; all_goals (with_reducible rfl)
  focus try simp only [Act.put, List.setIfInBounds_toArray, List.set_cons_zero, List.set_cons_succ]
  refine wpAnyH_done (by kernel_rfl) ?_ _
  rotate_left 1
  go_upto_region 3 with (fail)
  refine wp_region_held_drew (S := (fun w' => w'.cell? ⟨ba, 0, none⟩ = some (.int .i64 p) ∧ w'.cell? ⟨ba, 1, none⟩ = some (.int .i64 q) ∧ w'.cell? ⟨bb, 0, none⟩ = some (.int .i64 r) ∧ w'.cell? ⟨bb, 1, none⟩ = some (.int .i64 s))) (by kernel_rfl) ?_ (fun hHeld => ?_)
  · exact ⟨keepcell (W := w) (by repeat (first | exact Below.refl _ _ | with_reducible assumption | refine Below.alloc ?_ (by first | exact Nat.le_refl _ | (simp; done) | (simp; omega) | omega) _ | refine Below.setCell ?_ (by first | exact Nat.le_refl _ | (simp; done) | (simp; omega) | omega) _ | refine Below.drew ?_ | refine bdrewN ?_ _)) ca, keepcell (W := w) (by repeat (first | exact Below.refl _ _ | with_reducible assumption | refine Below.alloc ?_ (by first | exact Nat.le_refl _ | (simp; done) | (simp; omega) | omega) _ | refine Below.setCell ?_ (by first | exact Nat.le_refl _ | (simp; done) | (simp; omega) | omega) _ | refine Below.drew ?_ | refine bdrewN ?_ _)) ca1, keepcell (W := w) (by repeat (first | exact Below.refl _ _ | with_reducible assumption | refine Below.alloc ?_ (by first | exact Nat.le_refl _ | (simp; done) | (simp; omega) | omega) _ | refine Below.setCell ?_ (by first | exact Nat.le_refl _ | (simp; done) | (simp; omega) | omega) _ | refine Below.drew ?_ | refine bdrewN ?_ _)) cb, keepcell (W := w) (by repeat (first | exact Below.refl _ _ | with_reducible assumption | refine Below.alloc ?_ (by first | exact Nat.le_refl _ | (simp; done) | (simp; omega) | omega) _ | refine Below.setCell ?_ (by first | exact Nat.le_refl _ | (simp; done) | (simp; omega) | omega) _ | refine Below.drew ?_ | refine bdrewN ?_ _)) cb1⟩
  refine wpAnyH_take (i := 0) (oi := { dst := some 35, op := Go.Op.fieldAddr 24 (Go.Operand.tmp 0) 0, type := 0, pos := "num.go:183", after := #[], guard := none }) (v := ?_) rfl (by kernel_rfl) (by kernel_rfl) (by kernel_rfl) (fun _ _ _ h => h) (Or.inl ⟨by rfl, ?_⟩) (by assumption) ?_
  rotate_left 1
  · intro w_ hSw; (try dsimp only at hSw); go_simp; all_goals (with_reducible rfl)
  focus try simp only [Act.put, List.setIfInBounds_toArray, List.set_cons_zero, List.set_cons_succ]
  refine wpAnyH_take (i := 1) (oi := { dst := some 36, op := Go.Op.load 2 (Go.Operand.tmp 35), type := 2, pos := "num.go:183", after := #[{ on := 0, ground := Go.Ground.data }], guard := none }) (v := ?_) rfl (by kernel_rfl) (by kernel_rfl) (by kernel_rfl) (fun _ _ _ h => h) (Or.inl ⟨by rfl, ?_⟩) (by assumption) ?_
  rotate_left 1
  · intro w_ hSw; (try dsimp only at hSw); go_simp; all_goals (with_reducible rfl)
  focus try simp only [Act.put, List.setIfInBounds_toArray, List.set_cons_zero, List.set_cons_succ]
  refine wpAnyH_take (i := 2) (oi := { dst := some 37, op := Go.Op.binOp Go.BinOp.lss 2 (Go.Operand.tmp 36) (Go.Operand.const (Go.Value.int Go.IntKind.i64 0)) 2, type := 4, pos := "num.go:183", after := #[{ on := 1, ground := Go.Ground.data }], guard := none }) (v := ?_) rfl (by kernel_rfl) (by kernel_rfl) (by kernel_rfl) (fun _ _ _ h => h) (Or.inl ⟨by rfl, ?_⟩) (by assumption) ?_
  rotate_left 1
  · intro w_ hSw; (try dsimp only at hSw); go_simp; all_goals (with_reducible rfl)
  focus try simp only [Act.put, List.setIfInBounds_toArray, List.set_cons_zero, List.set_cons_succ]
  refine wpAnyH_take (i := 3) (oi := { dst := some 38, op := Go.Op.fieldAddr 24 (Go.Operand.tmp 1) 0, type := 0, pos := "num.go:183", after := #[], guard := none }) (v := ?_) rfl (by kernel_rfl) (by kernel_rfl) (by kernel_rfl) (fun _ _ _ h => h) (Or.inl ⟨by rfl, ?_⟩) (by assumption) ?_
  rotate_left 1
  · intro w_ hSw; (try dsimp only at hSw); go_simp; all_goals (with_reducible rfl)
  focus try simp only [Act.put, List.setIfInBounds_toArray, List.set_cons_zero, List.set_cons_succ]
  refine wpAnyH_take (i := 4) (oi := { dst := some 39, op := Go.Op.load 2 (Go.Operand.tmp 38), type := 2, pos := "num.go:183", after := #[{ on := 3, ground := Go.Ground.data }], guard := none }) (v := ?_) rfl (by kernel_rfl) (by kernel_rfl) (by kernel_rfl) (fun _ _ _ h => h) (Or.inl ⟨by rfl, ?_⟩) (by assumption) ?_
  rotate_left 1
  · intro w_ hSw; (try dsimp only at hSw); go_simp; all_goals (with_reducible rfl)
  focus try simp only [Act.put, List.setIfInBounds_toArray, List.set_cons_zero, List.set_cons_succ]
  refine wpAnyH_take (i := 5) (oi := { dst := some 40, op := Go.Op.binOp Go.BinOp.lss 2 (Go.Operand.tmp 39) (Go.Operand.const (Go.Value.int Go.IntKind.i64 0)) 2, type := 4, pos := "num.go:183", after := #[{ on := 4, ground := Go.Ground.data }], guard := none }) (v := ?_) rfl (by kernel_rfl) (by kernel_rfl) (by kernel_rfl) (fun _ _ _ h => h) (Or.inl ⟨by rfl, ?_⟩) (by assumption) ?_
  rotate_left 1
  · intro w_ hSw; (try dsimp only at hSw); go_simp; all_goals (with_reducible rfl)
  focus try simp only [Act.put, List.setIfInBounds_toArray, List.set_cons_zero, List.set_cons_succ]
  refine wpAnyH_take (i := 6) (oi := { dst := some 41, op := Go.Op.binOp Go.BinOp.neq 4 (Go.Operand.tmp 37) (Go.Operand.tmp 40) 4, type := 4, pos := "num.go:183", after := #[{ on := 2, ground := Go.Ground.data }, { on := 5, ground := Go.Ground.data }], guard := none }) (v := ?_) rfl (by kernel_rfl) (by kernel_rfl) (by kernel_rfl) (fun _ _ _ h => h) (Or.inl ⟨by rfl, ?_⟩) (by assumption) ?_
  rotate_left 1
  · intro w_ hSw; (try dsimp only at hSw); go_simp; all_goals (with_reducible rfl)
  focus try simp only [Act.put, List.setIfInBounds_toArray, List.set_cons_zero, List.set_cons_succ]
  refine wpAnyH_take (i := 7) (oi := { dst := some 42, op := Go.Op.move (Go.Operand.tmp 5), type := 54, pos := "num.go:183", after := #[], guard := none }) (v := ?_) rfl (by kernel_rfl) (by kernel_rfl) (by kernel_rfl) (fun _ _ _ h => h) (Or.inl ⟨by rfl, ?_⟩) (by assumption) ?_
  rotate_left 1
  · intro w_ hSw; (try dsimp only at hSw); go_simp; all_goals (with_reducible rfl)
  focus try simp only [Act.put, List.setIfInBounds_toArray, List.set_cons_zero, List.set_cons_succ]
  refine wpAnyH_take (i := 8) (oi := { dst := some 43, op := Go.Op.move (Go.Operand.tmp 6), type := 54, pos := "num.go:183", after := #[], guard := none }) (v := ?_) rfl (by kernel_rfl) (by kernel_rfl) (by kernel_rfl) (fun _ _ _ h => h) (Or.inl ⟨by rfl, ?_⟩) (by assumption) ?_
  rotate_left 1
  · intro w_ hSw; (try dsimp only at hSw); go_simp; all_goals (with_reducible rfl)
  focus try simp only [Act.put, List.setIfInBounds_toArray, List.set_cons_zero, List.set_cons_succ]
  refine wpAnyH_take (i := 9) (oi := { dst := some 44, op := Go.Op.build 59 #[(0, Go.Operand.tmp 41), (1, Go.Operand.tmp 42), (2, Go.Operand.tmp 43)], type := 59, pos := "num.go:183", after := #[{ on := 6, ground := Go.Ground.data }, { on := 7, ground := Go.Ground.data }, { on := 8, ground := Go.Ground.data }], guard := none }) (v := ?_) rfl (by kernel_rfl) (by kernel_rfl) (by kernel_rfl) (fun _ _ _ h => h) (Or.inl ⟨by rfl, ?_⟩) (by assumption) ?_
  rotate_left 1
  · intro w_ hSw; (try dsimp only at hSw); go_simp; all_goals (with_reducible rfl)
  focus try simp only [Act.put, List.setIfInBounds_toArray, List.set_cons_zero, List.set_cons_succ]
  refine wpAnyH_take (i := 10) (oi := { dst := some 45, op := Go.Op.fieldAddr 24 (Go.Operand.tmp 0) 1, type := 0, pos := "num.go:183", after := #[], guard := none }) (v := ?_) rfl (by kernel_rfl) (by kernel_rfl) (by kernel_rfl) (fun _ _ _ h => h) (Or.inl ⟨by rfl, ?_⟩) (by assumption) ?_
  rotate_left 1
  · intro w_ hSw; (try dsimp only at hSw); go_simp; all_goals (with_reducible rfl)
  focus try simp only [Act.put, List.setIfInBounds_toArray, List.set_cons_zero, List.set_cons_succ]
  refine wpAnyH_take (i := 11) (oi := { dst := some 46, op := Go.Op.load 2 (Go.Operand.tmp 45), type := 2, pos := "num.go:183", after := #[{ on := 10, ground := Go.Ground.data }], guard := none }) (v := ?_) rfl (by kernel_rfl) (by kernel_rfl) (by kernel_rfl) (fun _ _ _ h => h) (Or.inl ⟨by rfl, ?_⟩) (by assumption) ?_
  rotate_left 1
  · intro w_ hSw; (try dsimp only at hSw); go_simp; all_goals (with_reducible rfl)
  focus try simp only [Act.put, List.setIfInBounds_toArray, List.set_cons_zero, List.set_cons_succ]
  refine wpAnyH_take (i := 12) (oi := { dst := some 47, op := Go.Op.move (Go.Operand.tmp 4), type := 54, pos := "num.go:183", after := #[], guard := none }) (v := ?_) rfl (by kernel_rfl) (by kernel_rfl) (by kernel_rfl) (fun _ _ _ h => h) (Or.inl ⟨by rfl, ?_⟩) (by assumption) ?_
  rotate_left 1
  · intro w_ hSw; (try dsimp only at hSw); go_simp; all_goals (with_reducible rfl)
  focus try simp only [Act.put, List.setIfInBounds_toArray, List.set_cons_zero, List.set_cons_succ]
  refine wpAnyH_take (i := 13) (oi := { dst := some 48, op := Go.Op.convert 54 2 (Go.Operand.tmp 47), type := 2, pos := "num.go:183", after := #[{ on := 12, ground := Go.Ground.data }], guard := none }) (v := ?_) rfl (by kernel_rfl) (by kernel_rfl) (by kernel_rfl) (fun _ _ _ h => h) (Or.inl ⟨by rfl, ?_⟩) (by assumption) ?_
  rotate_left 1
  · intro w_ hSw; (try dsimp only at hSw); go_simp; all_goals (with_reducible rfl)
  focus try simp only [Act.put, List.setIfInBounds_toArray, List.set_cons_zero, List.set_cons_succ]
  refine wpAnyH_take (i := 14) (oi := { dst := some 49, op := Go.Op.binOp Go.BinOp.quo 2 (Go.Operand.tmp 46) (Go.Operand.tmp 48) 2, type := 2, pos := "num.go:183", after := #[{ on := 11, ground := Go.Ground.data }, { on := 13, ground := Go.Ground.data }], guard := none }) (v := ?_) rfl (by kernel_rfl) (by kernel_rfl) (by kernel_rfl) (fun _ _ _ h => h) (Or.inl ⟨by rfl, ?_⟩) (by assumption) ?_
  rotate_left 1
  · intro w_ hSw; (try dsimp only at hSw); go_simp; all_goals (with_reducible rfl)
  focus try simp only [Act.put, List.setIfInBounds_toArray, List.set_cons_zero, List.set_cons_succ]
  refine wpAnyH_take (i := 15) (oi := { dst := some 50, op := Go.Op.fieldAddr 24 (Go.Operand.tmp 1) 1, type := 0, pos := "num.go:183", after := #[], guard := none }) (v := ?_) rfl (by kernel_rfl) (by kernel_rfl) (by kernel_rfl) (fun _ _ _ h => h) (Or.inl ⟨by rfl, ?_⟩) (by assumption) ?_
  rotate_left 1
  · intro w_ hSw; (try dsimp only at hSw); go_simp; all_goals (with_reducible rfl)
  focus try simp only [Act.put, List.setIfInBounds_toArray, List.set_cons_zero, List.set_cons_succ]
  refine wpAnyH_take (i := 16) (oi := { dst := some 51, op := Go.Op.load 2 (Go.Operand.tmp 50), type := 2, pos := "num.go:183", after := #[{ on := 15, ground := Go.Ground.data }], guard := none }) (v := ?_) rfl (by kernel_rfl) (by kernel_rfl) (by kernel_rfl) (fun _ _ _ h => h) (Or.inl ⟨by rfl, ?_⟩) (by assumption) ?_
  rotate_left 1
  · intro w_ hSw; (try dsimp only at hSw); go_simp; all_goals (with_reducible rfl)
  focus try simp only [Act.put, List.setIfInBounds_toArray, List.set_cons_zero, List.set_cons_succ]
  refine wpAnyH_take (i := 17) (oi := { dst := some 52, op := Go.Op.move (Go.Operand.tmp 3), type := 54, pos := "num.go:183", after := #[], guard := none }) (v := ?_) rfl (by kernel_rfl) (by kernel_rfl) (by kernel_rfl) (fun _ _ _ h => h) (Or.inl ⟨by rfl, ?_⟩) (by assumption) ?_
  rotate_left 1
  · intro w_ hSw; (try dsimp only at hSw); go_simp; all_goals (with_reducible rfl)
  focus try simp only [Act.put, List.setIfInBounds_toArray, List.set_cons_zero, List.set_cons_succ]
  refine wpAnyH_take (i := 18) (oi := { dst := some 53, op := Go.Op.convert 54 2 (Go.Operand.tmp 52), type := 2, pos := "num.go:183", after := #[{ on := 17, ground := Go.Ground.data }], guard := none }) (v := ?_) rfl (by kernel_rfl) (by kernel_rfl) (by kernel_rfl) (fun _ _ _ h => h) (Or.inl ⟨by rfl, ?_⟩) (by assumption) ?_
  rotate_left 1
  · intro w_ hSw; (try dsimp only at hSw); go_simp; all_goals (with_reducible rfl)
  focus try simp only [Act.put, List.setIfInBounds_toArray, List.set_cons_zero, List.set_cons_succ]
  refine wpAnyH_take (i := 19) (oi := { dst := some 54, op := Go.Op.binOp Go.BinOp.quo 2 (Go.Operand.tmp 51) (Go.Operand.tmp 53) 2, type := 2, pos := "num.go:183", after := #[{ on := 16, ground := Go.Ground.data }, { on := 18, ground := Go.Ground.data }], guard := none }) (v := ?_) rfl (by kernel_rfl) (by kernel_rfl) (by kernel_rfl) (fun _ _ _ h => h) (Or.inl ⟨by rfl, ?_⟩) (by assumption) ?_
  rotate_left 1
  · intro w_ hSw; (try dsimp only at hSw); go_simp; all_goals (with_reducible rfl)
  focus try simp only [Act.put, List.setIfInBounds_toArray, List.set_cons_zero, List.set_cons_succ]
  refine wpAnyH_ready (rs := [20]) (by kernel_rfl) (by simp) ?_
  refine AllReadyH.cons (o := { dst := some 55, op := Go.Op.call { callee := Go.Callee.value (Go.Operand.func 51), args := #[Go.Operand.tmp 49, Go.Operand.tmp 54], argTypes := #[2, 2] }, type := 59, pos := "num.go:183", after := #[{ on := 14, ground := Go.Ground.data }, { on := 19, ground := Go.Ground.data }], guard := none }) rfl (fun K hK => ?_) (AllReadyH.nil)
  focus go_simp
  focus (refine (PR.out _).mono ?_; rintro e w1 ⟨rfl, rfl⟩)
  focus try simp only []
  refine hK.out _ _ ?_ (fun hHeld => ?_)
  · exact ⟨keepcell (W := w) (by repeat (first | exact Below.refl _ _ | with_reducible assumption | refine Below.alloc ?_ (by first | exact Nat.le_refl _ | (simp; done) | (simp; omega) | omega) _ | refine Below.setCell ?_ (by first | exact Nat.le_refl _ | (simp; done) | (simp; omega) | omega) _ | refine Below.drew ?_ | refine bdrewN ?_ _)) ca, keepcell (W := w) (by repeat (first | exact Below.refl _ _ | with_reducible assumption | refine Below.alloc ?_ (by first | exact Nat.le_refl _ | (simp; done) | (simp; omega) | omega) _ | refine Below.setCell ?_ (by first | exact Nat.le_refl _ | (simp; done) | (simp; omega) | omega) _ | refine Below.drew ?_ | refine bdrewN ?_ _)) ca1, keepcell (W := w) (by repeat (first | exact Below.refl _ _ | with_reducible assumption | refine Below.alloc ?_ (by first | exact Nat.le_refl _ | (simp; done) | (simp; omega) | omega) _ | refine Below.setCell ?_ (by first | exact Nat.le_refl _ | (simp; done) | (simp; omega) | omega) _ | refine Below.drew ?_ | refine bdrewN ?_ _)) cb, keepcell (W := w) (by repeat (first | exact Below.refl _ _ | with_reducible assumption | refine Below.alloc ?_ (by first | exact Nat.le_refl _ | (simp; done) | (simp; omega) | omega) _ | refine Below.setCell ?_ (by first | exact Nat.le_refl _ | (simp; done) | (simp; omega) | omega) _ | refine Below.drew ?_ | refine bdrewN ?_ _)) cb1⟩
  focus clear hK K
  focus try simp only [Act.put, List.setIfInBounds_toArray, List.set_cons_zero, List.set_cons_succ]
  refine wpAnyH_ready (rs := [21]) (by kernel_rfl) (by simp) ?_
  refine AllReadyH.cons (o := { dst := some 56, op := Go.Op.call { callee := Go.Callee.value (Go.Operand.func 46), args := #[Go.Operand.tmp 44, Go.Operand.tmp 55], argTypes := #[59, 59] }, type := 24, pos := "num.go:183", after := #[{ on := 9, ground := Go.Ground.data }, { on := 20, ground := Go.Ground.data }, { on := 20, ground := Go.Ground.chain }], guard := none }) rfl (fun K hK => ?_) (AllReadyH.nil)
  focus go_simp
  · (refine (RR.out _).mono ?_; rintro e w5 ⟨rfl, hb5⟩; exact ⟨rfl, rfl, by refine Below.trans ?_ (hb5.mono (by first | exact Nat.le_refl _ | (simp; done) | (simp; omega) | omega)); exact (by repeat (first | exact Below.refl _ _ | with_reducible assumption | refine Below.alloc ?_ (by first | exact Nat.le_refl _ | (simp; done) | (simp; omega) | omega) _ | refine Below.setCell ?_ (by first | exact Nat.le_refl _ | (simp; done) | (simp; omega) | omega) _ | refine Below.drew ?_ | refine bdrewN ?_ _))⟩)

end Go.Proofs.Ytnggikhpnophgaa.Num
