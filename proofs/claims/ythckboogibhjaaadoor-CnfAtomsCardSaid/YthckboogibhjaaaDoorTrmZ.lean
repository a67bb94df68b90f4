/- ashlarlaw07.shown; cnf.Clauses and shown in the form in which a printed text meets a callee. -/
import Derived.Test.YthckboogibhjaaaDoorTrmY
namespace Go.Proofs.YthckboogibhjaaaDoor.Trm
set_option linter.unusedVariables false
set_option linter.unusedSimpArgs false
open Go.RowKit Go.Proofs.YthckboogibhjaaaDoorW.PrintWords Go.Proofs.YthckboogibhjaaaDoorW.PrintMore

/-- a, and a and not a. -/
def tA : S24 := ⟨15, ⟨#[97]⟩, 0, []⟩
def tN : S24 := ⟨18, ⟨#[]⟩, 0, [tA]⟩
def tB : S24 := ⟨19, ⟨#[]⟩, 0, [tA, tN]⟩
def t1 : S24 := ⟨1, ⟨#[]⟩, 0, []⟩
def cB : List (List Int) := [[-2, 1], [-2, -1], [2, -1, 1], [2]]
theorem clauses_B : clausesT tB = (cB, [tA], 2, 0) := by kernel_rfl
theorem clauses_1 : clausesT t1 = ([], [], 0, 3) := by kernel_rfl
theorem same_B : ashlarlaw07_same.f 40 cB cB = some true := by kernel_rfl

/-- Rows just laid. -/
theorem row_one {α : Type} {d : Kd α} {W : World} {g ty : Nat} {cs : Array Value} {xs : List α} (hs : d.sz = 1) (h : W.heap[g]? = some (.cells cs ty (0, 0))) (hn : 0 < xs.length) (hm : xs.length ≤ 1000000)
    (hK : ∀ (j : Nat) (x : α), xs[j]? = some x → ∃ v, cs[j]? = some v ∧ d.K W x [v]) : Kd.C d W (some ⟨g, 0, none⟩) xs.length xs := by
  refine ⟨rfl, by omega, fun _ => ⟨_, rfl, fun j p hj => ?_⟩⟩
  obtain ⟨v, hv, hk⟩ := hK j p hj
  refine ⟨[v], by rw [hs]; rfl, hk, fun i u hu => ?_⟩
  have hi : i = 0 := by
    cases i with
    | zero => rfl
    | succ i => simp at hu
  subst hi
  have hu' : u = v := by simpa using hu.symm
  subst hu'
  have e : (⟨g, 0, none⟩ : Addr).add (j * d.sz + 0) = ⟨g, j, none⟩ := by rw [hs]; unfold Addr.add; split <;> simp_all
  rw [e, blk_cell h j]
  exact hv
theorem row_T1 {W : World} {g : Nat} {x : S24} {a b c d : Value} (h : W.heap[g]? = some (.cells #[a, b, c, d] 24 (0, 0))) (hK : k24.K W x [a, b, c, d]) : Kd.C k24 W (some ⟨g, 0, none⟩) 1 [x] := by
  refine ⟨rfl, by decide, fun _ => ⟨_, rfl, fun j p hj => ?_⟩⟩
  match j, hj with
  | 0, hj =>
    obtain rfl : x = p := by simpa using hj
    exact ⟨_, rfl, hK, fun i u hu => by
      have e : (⟨g, 0, none⟩ : Addr).add (0 * k24.sz + i) = ⟨g, i, none⟩ := by rw [Nat.zero_mul, Nat.zero_add]; unfold Addr.add; split <;> simp_all
      rw [e, blk_cell h i]; simpa using hu⟩
theorem row_T2 {W : World} {g : Nat} {x y : S24} {a b c d a' b' c' d' : Value} (h : W.heap[g]? = some (.cells #[a, b, c, d, a', b', c', d'] 24 (0, 0))) (hK : k24.K W x [a, b, c, d]) (hK' : k24.K W y [a', b', c', d']) : Kd.C k24 W (some ⟨g, 0, none⟩) 2 [x, y] := by
  refine ⟨rfl, by decide, fun _ => ⟨_, rfl, fun j p hj => ?_⟩⟩
  match j, hj with
  | 0, hj =>
    obtain rfl : x = p := by simpa using hj
    exact ⟨_, rfl, hK, fun i u hu => by
      have e : (⟨g, 0, none⟩ : Addr).add (0 * k24.sz + i) = ⟨g, i, none⟩ := by rw [Nat.zero_mul, Nat.zero_add]; unfold Addr.add; split <;> simp_all
      rw [e, blk_cell h i]
      match i, hu with
      | 0, hu => exact hu
      | 1, hu => exact hu
      | 2, hu => exact hu
      | 3, hu => exact hu⟩
  | 1, hj =>
    obtain rfl : y = p := by simpa using hj
    exact ⟨_, rfl, hK', fun i u hu => by
      have e : (⟨g, 0, none⟩ : Addr).add (1 * k24.sz + i) = ⟨g, 4 + i, none⟩ := by rw [Nat.one_mul]; show (⟨g, 0, none⟩ : Addr).add (4 + i) = _; unfold Addr.add; split <;> simp_all
      rw [e, blk_cell h (4 + i)]
      match i, hu with
      | 0, hu => exact hu
      | 1, hu => exact hu
      | 2, hu => exact hu
      | 3, hu => exact hu⟩
theorem row_I {W : World} {g : Nat} {xs : List Int} (hn : 0 < xs.length) (hm : xs.length ≤ 1000000) (h : W.heap[g]? = some (.cells (xs.map (Value.int .i64)).toArray 3 (0, 0))) : (Kd.slice 3 (Kd.int .i64)).K W xs [.slice (some ⟨g, 0, none⟩) xs.length xs.length] :=
  ⟨_, _, rfl, Nat.le_refl _, row_one (d := Kd.int .i64) rfl h hn hm (fun j x hj => ⟨.int .i64 x, by simp [hj], rfl⟩)⟩
theorem mk_T (W : World) (op : Int) (nm : ByteArray) (n : Int) (l : List S24) {A : Option Addr} {c : Nat} (hc : l.length ≤ c) (h : Kd.C k24 W A l.length l) : k24.K W ⟨op, nm, n, l⟩ [.int .i64 op, .string nm, .int .i64 n, .slice A l.length c] := k24_mk W ⟨op, nm, n, l⟩ hc h

theorem CB (w : World) (A : Option Addr) (hC : Kd.C k24 w A 2 [tA, tN]) : Calls Tryd.prog 10 #[.agg #[.int .i64 19, .string ⟨#[]⟩, .int .i64 0, .slice A 2 2]] w fun e w' => ∃ (A0 A1 : Option Addr) (c0 c1 : Nat), e = .returned (.tuple #[.slice A0 4 c0, .slice A1 1 c1, .int .i64 2, .int .i64 0]) ∧ 4 ≤ c0 ∧ Kd.C (Kd.slice 3 (Kd.int .i64)) w' A0 4 cB ∧ Below w.heap.size w w' := by
  refine (Clauses_any tB (fun k => k < w.heap.size) A 2 w (Kd.C_F k24_heap hC) (Nat.le_refl _)).mono ?_
  rw [clauses_B]
  rintro e w' ⟨v0, v1, rfl, h0, h1, hb⟩
  obtain ⟨A0, c0, rfl⟩ := n_slice (n := 4) h0 rfl
  obtain ⟨A1, c1, rfl, -⟩ := h1
  exact ⟨A0, A1, c0, c1, rfl, (Kd.N_reads' h0).2.1, (Kd.N_reads' h0).2.2, hb⟩
theorem C1 (w : World) : Calls Tryd.prog 10 #[.agg #[.int .i64 1, .string ⟨#[]⟩, .int .i64 0, .slice none 0 0]] w fun e w' => ∃ v0 v1 : Value, e = .returned (.tuple #[v0, v1, .int .i64 0, .int .i64 3]) ∧ Below w.heap.size w w' := by
  refine (Clauses_any t1 (fun k => k < w.heap.size) none 0 w (Kd.F_nil _ _ _) (Nat.le_refl _)).mono ?_
  rw [clauses_1]
  rintro e w' ⟨v0, v1, rfl, h0, h1, hb⟩
  exact ⟨v0, v1, rfl, hb⟩
theorem shown_row (w : World) : Kd.C k24 (((w.alloc (.cells #[.int .i64 15, .string ⟨#[97]⟩, .int .i64 0, .slice none 0 0] 24)).alloc (.cells #[.int .i64 15, .string ⟨#[97]⟩, .int .i64 0, .slice none 0 0] 24)).alloc (.cells #[.int .i64 15, .string ⟨#[97]⟩, .int .i64 0, .slice none 0 0, .int .i64 18, .string ⟨#[]⟩, .int .i64 0, .slice (some ⟨w.heap.size + 1, 0, none⟩) 1 1] 24)) (some ⟨w.heap.size + 1 + 1, 0, none⟩) 2 [tA, tN] :=
  row_T2 (blk_newk (by simp)) (mk_T _ 15 _ 0 [] (Nat.le_refl _) (Kd.C_nil _ _)) (mk_T _ 18 _ 0 [tA] (Nat.le_refl _) (row_T1 (blk_alloc (blk_new1 _ _ _) _) (mk_T _ 15 _ 0 [] (Nat.le_refl _) (Kd.C_nil _ _))))

theorem rows_cB (w : World) : Kd.C (Kd.slice 3 (Kd.int .i64)) (((((w.alloc (.cells #[.int .i64 (-2), .int .i64 1] 3)).alloc (.cells #[.int .i64 (-2), .int .i64 (-1)] 3)).alloc (.cells #[.int .i64 2, .int .i64 (-1), .int .i64 1] 3)).alloc (.cells #[.int .i64 2] 3)).alloc
    (.cells #[.slice (some ⟨w.heap.size, 0, none⟩) 2 2, .slice (some ⟨w.heap.size + 1, 0, none⟩) 2 2, .slice (some ⟨w.heap.size + 1 + 1, 0, none⟩) 3 3, .slice (some ⟨w.heap.size + 1 + 1 + 1, 0, none⟩) 1 1] 32)) (some ⟨w.heap.size + 1 + 1 + 1 + 1, 0, none⟩) cB.length cB := by
  refine row_one rfl (blk_newk (by simp)) (by decide) (by decide) (fun j x hj => ?_)
  match j, hj with
  | 0, hj =>
    obtain rfl : [-2, 1] = x := by simpa [cB] using hj
    exact ⟨_, rfl, row_I (by decide) (by decide) (blk_alloc (blk_alloc (blk_alloc (blk_alloc (blk_new _ _) _) _) _) _)⟩
  | 1, hj =>
    obtain rfl : [-2, -1] = x := by simpa [cB] using hj
    exact ⟨_, rfl, row_I (by decide) (by decide) (blk_alloc (blk_alloc (blk_alloc (blk_newk (by simp)) _) _) _)⟩
  | 2, hj =>
    obtain rfl : [2, -1, 1] = x := by simpa [cB] using hj
    exact ⟨_, rfl, row_I (by decide) (by decide) (blk_alloc (blk_alloc (blk_newk (by simp)) _) _)⟩
  | 3, hj =>
    obtain rfl : [2] = x := by simpa [cB] using hj
    exact ⟨_, rfl, row_I (by decide) (by decide) (blk_alloc (blk_newk (by simp)) _)⟩

set_option maxHeartbeats 8000000 in
set_option maxRecDepth 100000 in
theorem shown_any (w : World) : Calls Tryd.prog 9 #[] w fun e w' => e = .returned (.bool true) ∧ Below w.heap.size w w' := by
  have HR := Lib.hid (shown_row w)
  have B3 := Lib.hid (below_alloc (below_alloc (below_alloc (Below.refl w.heap.size w) (.cells #[.int .i64 15, .string ⟨#[97]⟩, .int .i64 0, .slice none 0 0] 24)) (.cells #[.int .i64 15, .string ⟨#[97]⟩, .int .i64 0, .slice none 0 0] 24)) (.cells #[.int .i64 15, .string ⟨#[97]⟩, .int .i64 0, .slice none 0 0, .int .i64 18, .string ⟨#[]⟩, .int .i64 0, .slice (some ⟨w.heap.size + 1, 0, none⟩) 1 1] 24))
  go_enter Tryd.func9, Tryd.ntmps9
  go_wp2_with fail
  refine (CB _ _ HR.out).mono ?_
  rintro e w2 ⟨A0, A1, c0, c1, rfl, hc0, q1, q2⟩
  have Q1 := Lib.hid q1
  have Q2 := Lib.hid (B3.out.trans (q2.mono B3.out.size))
  clear q1 q2 HR B3
  go_wp2_with fail
  refine (C1 _).mono ?_
  rintro e w3 ⟨v0, v1, rfl, q2⟩
  have Q3 := Lib.hid (Kd.C_below Q1.out q2)
  have Q4 := Lib.hid (Q2.out.trans (q2.mono Q2.out.size))
  clear q2 Q1 Q2
  go_wp2_with fail
  have B8 : Below w3.heap.size w3 (((((w3.alloc (.cells #[.int .i64 (-2), .int .i64 1] 3)).alloc (.cells #[.int .i64 (-2), .int .i64 (-1)] 3)).alloc (.cells #[.int .i64 2, .int .i64 (-1), .int .i64 1] 3)).alloc (.cells #[.int .i64 2] 3)).alloc
    (.cells #[.slice (some ⟨w3.heap.size, 0, none⟩) 2 2, .slice (some ⟨w3.heap.size + 1, 0, none⟩) 2 2, .slice (some ⟨w3.heap.size + 1 + 1, 0, none⟩) 3 3, .slice (some ⟨w3.heap.size + 1 + 1 + 1, 0, none⟩) 1 1] 32)) := below_alloc (below_alloc (below_alloc (below_alloc (below_alloc (Below.refl _ _) _) _) _) _) _
  refine (ashlarlaw07_same.calls 40 A0 c0 cB _ 4 cB true _ (Kd.C_below Q3.out B8) hc0 (rows_cB w3) (Nat.le_refl _) same_B).mono ?_
  rintro e w9 ⟨rfl, hb⟩
  have Q9 := Lib.hid (Q4.out.trans ((B8.trans (hb.below.mono B8.size)).mono Q4.out.size))
  clear B8 hb Q3 Q4
  go_wp2
  exact bodyPost_ret (v := .bool true) (by simp [results, Tryd.results9, go_sem]) rfl ⟨rfl, Q9.out⟩

def ashlarlaw07_shown.f : Option Bool := some true
theorem ashlarlaw07_shown.calls (r : Bool) (w : World) (h : ashlarlaw07_shown.f = some r) : Calls Tryd.prog 9 #[] w fun e w' => e = .returned (.bool r) ∧ Below w.heap.size w w' := by
  rw [← Option.some.inj h]
  exact shown_any w
def cnf_Clauses.f (op : Int) (nm : ByteArray) (n : Int) (l : List S24) : Option (List (List Int) × List S24 × Int × Int) := some (clausesT ⟨op, nm, n, l⟩)
theorem cnf_Clauses.calls (a0_0 : Int) (a0_1 : ByteArray) (a0_2 : Int) (P0_3_ : Nat → Prop) (A0_3 : Option Addr) (c0_3 : Nat) (l0_3 : List (S24)) (r1 : List (List Int)) (r2 : List (S24)) (r3 : Int) (r4 : Int) (w : World) (hs0_3 : Kd.V k24 24 w w.heap.size (fun k_ => P0_3_ k_) (.slice A0_3 l0_3.length c0_3) l0_3) (h : cnf_Clauses.f a0_0 a0_1 a0_2 l0_3 = some (r1, r2, r3, r4)) :
    Calls Tryd.prog 10 #[.agg #[.int .i64 a0_0, .string a0_1, .int .i64 a0_2, .slice A0_3 l0_3.length c0_3]] w fun e w' => ∃ v0_ v1_ : Value, e = .returned (.tuple #[v0_, v1_, .int .i64 r3, .int .i64 r4]) ∧ Kd.N (Kd.slice 3 (Kd.int .i64)) 32 w' w.heap.size (fun k_ => (P0_3_ k_ ∨ w.heap.size ≤ k_)) v0_ r1 ∧ Kd.V k24 24 w' w.heap.size (fun k_ => (P0_3_ k_ ∨ w.heap.size ≤ k_) ∧ some k_ ≠ (v0_ : Value).ownBlock) v1_ r2 ∧ Below w.heap.size w w' := by
  have h2 := Clauses_any ⟨a0_0, a0_1, a0_2, l0_3⟩ P0_3_ A0_3 c0_3 w (Kd.V_F hs0_3) (Kd.V_at hs0_3).2.1
  rw [Option.some.inj h] at h2
  exact h2
end Go.Proofs.YthckboogibhjaaaDoor.Trm
