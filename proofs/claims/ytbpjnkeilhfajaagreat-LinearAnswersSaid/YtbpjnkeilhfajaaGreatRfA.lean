import Derived.Test.YtbpjnkeilhfajaaGreatNumE
import Derived.Test.YtbpjnkeilhfajaaGreatNumT
import Derived.Maps.AppendAt
import Derived.Laws.Rows
import Derived.Deep.QuietTactic
import Derived.BigQuiet
section
/- Contracts of linear: must, fits and what it catches, sign. -/
namespace Go.Proofs
theorem Z1b0 {p : Prop} (h : p := by repeat (first | exact Below.refl _ _ | with_reducible assumption | refine Below.alloc ?_ (by first | exact Nat.le_refl _ | (simp; done) | (simp; omega) | omega) _ | refine Below.setCell ?_ (by first | exact Nat.le_refl _ | (simp; done) | (simp; omega) | omega) _ | refine Below.drew ?_ | refine bdrewN ?_ _)) : p := h
end Go.Proofs
namespace Go.Proofs.YtbpjnkeilhfajaaGreat.Ln
open Go.RowKit Go.Proofs.YtbpjnkeilhfajaaGreat.Num
set_option linter.unusedVariables false
set_option linter.unusedSimpArgs false
theorem run_largeL (w : World) : (Instr.panic (Value.iface 101 (Value.agg #[]))).run Tryz.prog w = .halt (.panic (Value.iface 101 (Value.agg #[]))) w := by kernel_rfl
def LargeL : List PanicEntry := [{ v := .iface 101 (.agg #[]), recovered := false }]
theorem mustR_ok (p q : Int) (w : World) :
  Calls Tryz.prog 85 #[.agg #[.int .i64 p, .int .i64 q], .bool true] w fun e w' => e = .returned (.agg #[.int .i64 p, .int .i64 q]) ∧ Below w.heap.size w w' := by
 go_enter Tryz.func85, Tryz.ntmps85
 go_wp2
 simp [bodyPost, results, Tryz.results85, go_sem]
 exact Z1b0
theorem mustR_no (p q : Int) (w : World) :
  Calls Tryz.prog 85 #[.agg #[.int .i64 p, .int .i64 q], .bool false] w fun e w' => e = .panicked LargeL ∧ Below w.heap.size w w' := by
 have hp := run_largeL
 go_enter Tryz.func85, Tryz.ntmps85
 go_wp2
 exact ⟨rfl, rfl, Z1b0⟩
theorem must64_ok (p : Int) (w : World) :
  Calls Tryz.prog 93 #[.int .i64 p, .bool true] w fun e w' => e = .returned (.int .i64 p) ∧ w' = w := by
 go_enter Tryz.func93, Tryz.ntmps93
 go_wp2
 go_ret
 exact ⟨rfl, rfl⟩
theorem must64_no (p : Int) (w : World) :
  Calls Tryz.prog 93 #[.int .i64 p, .bool false] w fun e w' => e = .panicked LargeL ∧ w' = w := by
 have hp := run_largeL
 go_enter Tryz.func93, Tryz.ntmps93
 go_wp2
 exact ⟨rfl, rfl, rfl⟩
structure Fp (S : Nat → Prop) (w w' : World) : Prop where
 os : w'.os = w.os
 tape : w'.tape = w.tape
 output : w'.output = w.output
 size : w.heap.size ≤ w'.heap.size
 block : ∀ k, k < w.heap.size → ¬ S k → w'.heap[k]? = w.heap[k]?
namespace Fp
variable {S T : Nat → Prop} {w w' w'' : World}
theorem refl (S : Nat → Prop) (w : World) : Fp S w w := ⟨rfl, rfl, rfl, Nat.le_refl _, fun _ _ _ => rfl⟩
theorem trans (h : Fp S w w') (k : Fp T w' w'') (hT : ∀ i, i < w.heap.size → T i → S i) : Fp S w w'' :=
 ⟨k.os.trans h.os, k.tape.trans h.tape, k.output.trans h.output, Nat.le_trans h.size k.size, fun i hi hn => (k.block i (Nat.lt_of_lt_of_le hi h.size) (fun t => hn (hT i hi t))).trans (h.block i hi hn)⟩
theorem tr (h : Fp S w w') (k : Fp S w' w'') : Fp S w w'' := h.trans k fun _ _ h => h
theorem imp (h : Fp S w w') (hT : ∀ i, i < w.heap.size → S i → T i) : Fp T w w' := ⟨h.os, h.tape, h.output, h.size, fun i hi hn => h.block i hi fun t => hn (hT i hi t)⟩
theorem of_below (h : Below w.heap.size w w') : Fp S w w' := ⟨h.os, h.tape, h.output, h.size, fun k hk _ => h.block k hk⟩
theorem below (h : Fp S w w') {b : Nat} (hb : b ≤ w.heap.size) (hS : ∀ i, i < b → ¬ S i) : Below b w w' := ⟨h.os, h.tape, h.output, h.size, fun k hk => h.block k (Nat.lt_of_lt_of_le hk hb) (hS k hk)⟩
theorem alloc (h : Fp S w w') (o : Obj) : Fp S w (w'.alloc o) := h.trans (of_below (S := S) ((Below.refl _ _).alloc (Nat.le_refl _) _)) fun _ _ h => h
theorem setCell (h : Fp S w w') {a : Addr} (ha : a.block < w.heap.size → S a.block) (v : Value) : Fp S w (w'.setCell a v) :=
 h.trans (T := fun k => k = a.block) ⟨rfl, rfl, rfl, by simp, fun k hk hn => Below.heap_setCell w' a v k hn⟩ (by rintro i hi rfl; exact ha hi)
theorem drewN (h : Fp S w w') (n : Nat) : Fp S w (w'.drewN n) := ⟨h.os, h.tape, h.output, h.size, h.block⟩
end Fp
theorem assert_largeL (w : World) : (Instr.typeAssert (.iface 101 (.agg #[])) 20 101 true).run Tryz.prog w = .ok (.tuple #[.agg #[], .bool true]) w := by kernel_rfl
set_option maxHeartbeats 4000000 in
theorem catch_panicking (q : Nat) (y0 : Bool) (w : World) (hq : w.cell? ⟨q, 0, none⟩ = some (.bool y0)) (hzq : w.frozen? ⟨q, 0, none⟩ = false) (hql : q < w.heap.size) :
  CallsD Tryz.prog 83 #[.pointer (some ⟨q, 0, none⟩)] (.panicking LargeL) w fun e u' w' =>
   e = .returned (.tuple #[]) ∧ u' = .panicking [{ v := .iface 101 (.agg #[]), recovered := true }] ∧ w' = (w.setCell ⟨q, 0, none⟩ (.bool false)).alloc (.cells #[] 101) := by
 have ht := assert_largeL
 unfold LargeL
 refine callsD_of_wpS Tryz.func83 rfl fun c₀ cs hu => ?_
 apply wpS_seq
 apply wpS_region
 simp [wpOpsS, go_sem, recoverD, hu, Tryz.ntmps83, Exit.thenS]
 refine wpS_of_wp ?_
 go_wp2
 simp [bodyPostS, results, Tryz.results83]
theorem catch_idle (q : Value) (w : World) :
  CallsD Tryz.prog 83 #[q] .returning w fun e u' w' => e = .returned (.tuple #[]) ∧ u' = .returning ∧ w' = w := by
 refine callsD_of_wpS Tryz.func83 rfl fun c₀ cs hu => ?_
 apply wpS_seq
 apply wpS_region
 simp [wpOpsS, go_sem, recoverD, hu, Tryz.ntmps83, Exit.thenS]
 refine wpS_of_wp ?_
 go_wp2
 cases c₀
 simp_all [bodyPostS, results, Tryz.results83]
theorem fits_ok (g : Nat) (cap : Array Value) (S : Nat → Prop) (Q : World → Prop) (w : World) (hS : ∀ k, S k → k < w.heap.size) (hcf : ∀ W, (callFunc g cap).run Tryz.prog W = .ok (.enter g cap) W)
  (h : ∀ W, Below w.heap.size w W → Calls Tryz.prog g cap W fun e W' => e = .returned (.tuple #[]) ∧ Fp S W W' ∧ Q W') :
  Calls Tryz.prog 37 #[.func (.func g) #[] cap] w fun e w' => e = .returned (.bool true) ∧ Fp S w w' ∧ ∃ W', Q W' ∧ W'.heap.size ≤ w'.heap.size ∧ ∀ k, k < W'.heap.size → k ≠ w.heap.size → w'.heap[k]? = W'.heap[k]? := by
 have hmf := run_makeFunc
 have H := Lib.hid h
 have HS := Lib.hid hS
 clear h hS
 go_enter_defers Tryz.func37, Tryz.ntmps37
 go_wp2_with fail
 refine (H.out _ Z1b0).mono ?_
 rintro e w1 ⟨rfl, hb1, hQ⟩
 have hz := hb1.size
 simp at hz
 have hblk : w1.heap[w.heap.size]? = some (.cells #[.bool false] 4 (0, 0)) := by
  rw [hb1.block _ (by simp) (fun hk => by have := HS.out _ hk; omega)]; exact heap_alloc_new w _
 have c2 : w1.cell? ⟨w.heap.size, 0, none⟩ = some (.bool false) := by simp [World.cell?, hblk]
 have f2 : w1.frozen? ⟨w.heap.size, 0, none⟩ = false := by simp [World.frozen?, hblk]
 have hb2 : Fp S w w1 := ((Fp.refl S w).alloc _).tr hb1
 have hb3 := Lib.hid (show Fp S w w1 ∧ Q w1 from ⟨hb2, hQ⟩)
 clear hb1 hb2 hQ hblk
 go_wp2
 refine leaves_cons (f := 83) (args := #[.pointer (some ⟨w.heap.size, 0, none⟩)]) (by simp) (by simp [go_sem]) ?_
 refine (catch_idle _ _).mono ?_
 rintro e u' w'' ⟨rfl, rfl, rfl⟩
 obtain ⟨hb2, hQ⟩ := hb3.out
 have k1 : w.heap.size < w1.heap.size := by omega
 simp [Leaves, settle, results, Tryz.results37, go_sem, c2, k1]
 exact ⟨hb2.setCell (by simp) _, w1, hQ, by simp, fun k hk hne => Below.heap_setCell _ ⟨w.heap.size, 0, none⟩ _ k hne⟩
theorem fits_no (g : Nat) (cap : Array Value) (S : Nat → Prop) (Q : World → Prop) (w : World) (hS : ∀ k, S k → k < w.heap.size) (hcf : ∀ W, (callFunc g cap).run Tryz.prog W = .ok (.enter g cap) W)
  (h : ∀ W, Below w.heap.size w W → Calls Tryz.prog g cap W fun e W' => e = .panicked LargeL ∧ Fp S W W' ∧ Q W') :
  Calls Tryz.prog 37 #[.func (.func g) #[] cap] w fun e w' => e = .returned (.bool false) ∧ Fp S w w' ∧ ∃ W', Q W' ∧ W'.heap.size ≤ w'.heap.size ∧ ∀ k, k < W'.heap.size → k ≠ w.heap.size → w'.heap[k]? = W'.heap[k]? := by
 have hmf := run_makeFunc
 have H := Lib.hid h
 have HS := Lib.hid hS
 clear h hS
 go_enter_defers Tryz.func37, Tryz.ntmps37
 go_wp2_with fail
 refine (H.out _ Z1b0).mono ?_
 rintro e w1 ⟨rfl, hb1, hQ⟩
 have hz := hb1.size
 simp at hz
 have hblk : w1.heap[w.heap.size]? = some (.cells #[.bool false] 4 (0, 0)) := by
  rw [hb1.block _ (by simp) (fun hk => by have := HS.out _ hk; omega)]; exact heap_alloc_new w _
 have c2 : w1.cell? ⟨w.heap.size, 0, none⟩ = some (.bool false) := by simp [World.cell?, hblk]
 have f2 : w1.frozen? ⟨w.heap.size, 0, none⟩ = false := by simp [World.frozen?, hblk]
 have hb2 : Fp S w w1 := ((Fp.refl S w).alloc _).tr hb1
 have hb3 := Lib.hid (show Fp S w w1 ∧ Q w1 from ⟨hb2, hQ⟩)
 clear hb1 hb2 hQ hblk
 go_wp2
 refine leaves_cons (f := 83) (args := #[.pointer (some ⟨w.heap.size, 0, none⟩)]) (by simp) (by simp [go_sem]) ?_
 refine (catch_panicking _ false _ c2 f2 (by omega)).mono ?_
 rintro e u' w'' ⟨rfl, rfl, rfl⟩
 obtain ⟨hb2, hQ⟩ := hb3.out
 have k1 : w.heap.size < w1.heap.size := by omega
 simp [Leaves, settle, results, Tryz.results37, go_sem, c2, k1]
 exact ⟨(hb2.setCell (by simp) _).alloc _, w1, hQ, by simp, fun k hk hne => (Below.heap_alloc _ _ _ (by simp; omega)).trans (Below.heap_setCell _ ⟨w.heap.size, 0, none⟩ _ k hne)⟩
end Go.Proofs.YtbpjnkeilhfajaaGreat.Ln
end

section
/- Rows of digits of the call's own; ashlarref01's at, size, apart, Of. -/
namespace Go.Proofs.YtbpjnkeilhfajaaGreat.Rf
open Go.RowKit Go.Proofs.YtbpjnkeilhfajaaGreat.Given Go.Proofs.YtbpjnkeilhfajaaGreat.PNumReckons Go.Proofs.YtbpjnkeilhfajaaGreatW.PrintWords Go.Proofs.YtbpjnkeilhfajaaGreatW.PrintLast Go.Proofs.YtbpjnkeilhfajaaGreatW.PrintMore Go.Proofs.YtbpjnkeilhfajaaGreat.Ref
set_option linter.unusedVariables false
set_option linter.unusedSimpArgs false
theorem max2_mx (k k' : IntKind) (x y : Int) : Builtin.max2 (.int k x) (.int k' y) = pure (.int k (mx x y)) := by rw [max2_int]; rfl
attribute [local go_sem] max2_mx max_two
def intv (l : List Int) : List Value := l.map fun n : Int => Value.int .i64 n
theorem intv_len (l : List Int) : (intv l).length = l.length := by simp [intv]
theorem intv_get {l : List Int} {i : Nat} (h : i < l.length) : (intv l)[i]? = some (.int .i64 (rd l i)) := by
 unfold intv rd
 rw [List.getElem?_map, List.getElem?_eq_getElem h, Int.toNat_natCast, List.getD_eq_getElem?_getD, List.getElem?_eq_getElem h]
 rfl
def RowJ (w : World) (base : Nat) (v : Value) (l : List Int) : Prop := w.ownsRow base 3 1 v l.length (intv l)
theorem RowJ.below {w w1 : World} {base : Nat} {v : Value} {l : List Int} (h : RowJ w base v l) (hb : Below w.heap.size w w1) : RowJ w1 base v l := pw_own_below h hb
theorem RowJ.low {w : World} {base b2 : Nat} {v : Value} {l : List Int} (h : RowJ w base v l) (hb : b2 ≤ base) : RowJ w b2 v l := by
 obtain ⟨hl, hv⟩ := h
 refine ⟨hl, ?_⟩
 rcases hv with h | ⟨g', cap, cur, rfl, h1, h2⟩
 ·exact .inl h
 ·exact .inr ⟨g', cap, cur, rfl, Nat.le_trans hb h1, h2⟩
theorem RowJ.bk {w : World} {base : Nat} {v : Value} {l : List Int} (h : RowJ w base v l) {g : Nat} (hg : v.ownBlock = some g) : base ≤ g ∧ g < w.heap.size := by
 obtain ⟨hl, hv⟩ := h
 rcases hv with ⟨rfl, _⟩ | ⟨g', cap, cur, rfl, h1, hb, h2⟩
 ·cases hg
 ·cases hg
  exact ⟨h1, blk_lt hb⟩
theorem reps_J (w : World) (base : Nat) (ok : Nat → Prop) (p : List Int) : Reps ((Kd.int .i64).M w base ok) 1 p (intv p) := by
 refine ⟨by simp [intv], fun j x hx => ?_⟩
 obtain ⟨hj, e⟩ := List.getElem?_eq_some_iff.1 hx
 have : ((intv p).drop (j * 1)).take 1 = [.int .i64 x] := by
  rw [Nat.mul_one, List.drop_eq_getElem_cons (by simpa [intv] using hj)]
  simp [intv, e]
 rw [this]
 rfl
theorem RowJ.toR {w : World} {base : Nat} {v : Value} {p : List Int} (h : RowJ w base v p) : (Kd.int .i64).R 3 w base (fun k => base ≤ k) v p := by
 exact ⟨fun k hk => (h.bk hk).1, intv p, h, reps_J w base _ p⟩
theorem RowJ.read {w : World} {base : Nat} {v : Value} {l : List Int} (h : RowJ w base v l) : ∃ A c, v = .slice A l.length c ∧ l.length ≤ c ∧ Kd.C (Kd.int .i64) w A l.length l := by
 obtain ⟨hl, hv⟩ := id h
 rcases hv with ⟨rfl, h0⟩ | ⟨g', cap, cur, rfl, h1, hb, h2⟩
 ·rw [← h0]
  obtain ⟨_, c1, c2⟩ := Kd.R_reads' h.toR
  exact ⟨_, _, rfl, Nat.le_of_eq rfl, by simpa [h0] using c2⟩
 ·obtain ⟨_, c1, c2⟩ := Kd.R_reads' h.toR
  exact ⟨_, _, rfl, c1, c2⟩
theorem RowJ.at {w : World} {base : Nat} {v : Value} {l : List Int} (h : RowJ w base v l) {i : Nat} (hi : i < l.length) :
  ∃ g cap, v = .slice (some ⟨g, 0, none⟩) l.length cap ∧ base ≤ g ∧ l.length ≤ cap ∧ w.cell? ⟨g, i, none⟩ = some (.int .i64 (rd l i)) ∧ ∀ k, w.frozen? ⟨g, k, none⟩ = false := by
 obtain ⟨hl, hv⟩ := h
 rcases hv with ⟨_, h0⟩ | ⟨g, cap, cur, rfl, hg, hb, hn, hm, hs, ht⟩
 ·omega
 ·have a := intv_get hi
  refine ⟨g, cap, rfl, hg, hn, ?_, fun k => by simp [World.frozen?, hb]⟩
  rw [← ht, List.getElem?_take] at a
  split at a
  ·rw [cell_of_row w g _ cur _ (0, 0) hb]; simpa using a
  ·cases a
theorem RowJ.set {w : World} {base g n cap : Nat} {l : List Int} (h : RowJ w base (.slice (some ⟨g, 0, none⟩) n cap) l) (i : Nat) (x : Int) :
  RowJ (w.setCell ⟨g, i, none⟩ (.int .i64 x)) base (.slice (some ⟨g, 0, none⟩) n cap) (l.set i x) := by
 obtain ⟨hl, hv⟩ := h
 refine ⟨by rw [intv_len]; omega, ?_⟩
 rcases hv with ⟨h1, _⟩ | ⟨g', cap', cur, e, hg, hb, hn, hm, hs, ht⟩
 ·cases h1
 ·injection e with e1 e2 e3
  injection e1 with e1
  injection e1 with e1
  subst e1
  subst e2
  subst e3
  refine .inr ⟨g, cap, cur.setIfInBounds i (.int .i64 x), by rw [List.length_set], hg, blk_put hb _ _ rfl, by rw [List.length_set]; exact hn, hm, by simpa using hs, ?_⟩
  have e : intv (l.set i x) = (intv l).set i (.int .i64 x) := by unfold intv; rw [List.map_set]
  rw [List.length_set, e, ← ht]
  simp only [Array.toList_setIfInBounds, List.take_set]
theorem RowJ.nil {w : World} {base g : Nat} (hb : w.heap[g]? = some (.cells #[] 3 (0, 0))) (hg : base ≤ g) : RowJ w base (.slice (some ⟨g, 0, none⟩) 0 0) [] :=
 ⟨by simp [intv], .inr ⟨g, 0, #[], rfl, hg, hb, Nat.le_refl _, Nat.zero_le _, by simp, by simp [intv]⟩⟩
theorem RowJ.empty {w : World} {base : Nat} : RowJ w base (.slice none 0 0) [] := ⟨by simp [intv], .inl ⟨rfl, rfl⟩⟩
theorem infoJ : (Tryz.prog.info? 3).map (fun i => (i.zero, i.size, i.bytes)) = some (some (.int .i64 0), 1, 8) := by kernel_rfl
theorem wpList_appJ {W : World} {ops : Array Oper} {rest : List Oper} {o : Oper} {a : Act} {Q : Exit → Act → World → Prop} (hgd : o.guard = none) (s x : Operand)
  (ho : o.op = .call { callee := .builtin .append, args := #[s, x], argTypes := #[69 , 69 ] })
  (base : Nat) (y : Int) (v : Value) (l : List Int) (hs : a.eval s = v) (hown : RowJ W base v l) (hx : a.eval x = .slice (some ⟨W.heap.size, 0, .none⟩) 1 1) (hn : l.length < 17592186044416) (hbase : base ≤ W.heap.size)
  (h : ∀ v' w', Hid (RowJ w' base v' (l ++ [y])) → Hid (Below base W w') → wpList Tryz.prog ops Q rest (a.put o.dst v') w') : wpList Tryz.prog ops Q (o :: rest) a (W.alloc (.cells #[.int .i64 y] 3)) := by
 refine wpList_plain hgd fun K hK => ?_
 cases hq : Tryz.prog.info? 3 with
 | none => have := infoJ; rw [hq] at this; cases this
 | some i =>
  have hi := infoJ
  rw [hq] at hi
  injection hi with hi
  injection hi with h2 h3
  injection h3 with h3 h4
  have hb0 : Below W.heap.size W (W.alloc (.cells #[.int .i64 y] 3)) := (Below.refl _ _).alloc (Nat.le_refl _) _
  obtain ⟨v', w', hr, k1, k2, _, k3⟩ := run_append_own_at (P := Tryz.prog) (W.alloc (.cells #[.int .i64 y] 3)) base 69 o.type 3 i (.int .i64 0) 1 8 Tryz.underlying69 hq h2 h3 h4 rfl (by decide) v l.length (intv l) (hown.below hb0) ⟨W.heap.size, 0, .none⟩ 1 1 [.int .i64 y] rfl (fun j u hj => by
   match j, hj with
   | 0, hj => cases hj; rw [Addr.add_lit]; exact blk_cell (blk_new _ _) 0
   | j + 1, hj => cases hj) (fun u hu => by rw [List.mem_singleton.1 hu]; rfl) (by unfold maxLen; omega) (by omega) (by simp; omega)
  unfold Oper.wp execOp
  simp only [ho, resolve, invoke, builtin, Sem.run_bind, Sem.run_pure, Result.andThen_ok, List.map_toArray, List.map_cons, List.map_nil, hs, hx, hr]
  refine hK _ _ (h v' w' (Lib.hid ?_) (Lib.hid ?_))
  ·unfold RowJ
   rw [List.length_append, List.length_singleton, show intv (l ++ [y]) = intv l ++ [.int .i64 y] by simp [intv]]
   exact k1
  ·exact Below.grown (hb0.mono hbase) k2 (by simp; omega) (fun k hk => (hown.bk hk).1)
theorem at_any {A : Option Addr} {c : Nat} {l : List Int} {i r : Int} {w : World} (hr : Kd.C (Kd.int .i64) w A l.length l) (h : ashlarref01_at.f l i = some r) :
  Calls Tryz.prog 111 #[.slice A l.length c, .int .i64 i] w fun e w' => e = .returned (.int .i64 r) ∧ w' = w := by
 unfold ashlarref01_at.f at h
 split at h
 ·rename_i h1
  split at h
  ·rename_i h2
   obtain rfl := Option.some.inj h
   obtain ⟨ad, rfl, hx⟩ := Kd.at_int hr i h2 h1
   have h3 := eq_true h1
   have h4 := eq_true h2
   clear hr h h1 h2
   go_enter Tryz.func111, Tryz.ntmps111
   go_wp2
   go_ret
   exact ⟨rfl, rfl⟩
  ·cases h
 ·rename_i h1
  obtain rfl := Option.some.inj h
  have h3 := eq_false h1
  clear hr h h1
  go_enter Tryz.func111, Tryz.ntmps111
  go_wp2
  go_ret
  exact ⟨rfl, rfl⟩
set_option maxHeartbeats 4000000 in
set_option maxRecDepth 100000 in
theorem size_any {k : Nat} {A0 A1 : Option Addr} {c0 c1 : Nat} {l0 l1 : List Int} {r : Int} {w : World} (hr0 : Kd.C (Kd.int .i64) w A0 l0.length l0) (hr1 : Kd.C (Kd.int .i64) w A1 l1.length l1) (h : ashlarref01_size.f k l0 l1 = some r) :
  Calls Tryz.prog 109 #[.slice A0 l0.length c0, .slice A1 l1.length c1] w fun e w' => e = .returned (.int .i64 r) ∧ w' = w := by
 have HR0 := Lib.hid hr0
 have HR1 := Lib.hid hr1
 unfold ashlarref01_size.f at h
 obtain ⟨n, hn⟩ : ∃ n, wrap64 ((mx (l0.length : Int) (l1.length : Int)) - 1) = n := ⟨_, rfl⟩
 rw [hn] at h
 have hn2 : IntKind.i64.wrap ((mx (l0.length : Int) (l1.length : Int)) - 1) = n := (i64_w _).trans hn
 have H := Lib.hid h
 clear hr0 hr1 h
 go_enter Tryz.func109, Tryz.ntmps109
 go_wp2
 go_loopg [5] k (fun kq v5 w' => ∃ i : Int, v5 = .int .i64 i ∧ Hid (ashlarref01_size.l0 kq l0 l1 i = some r) ∧ kq ≤ k ∧ w' = w)
 case atStart => exact ⟨n, by first | rfl | (simp [*]; done), H, Nat.le_refl _, rfl⟩
 case round =>
  obtain ⟨i, rfl, H, hk, rfl⟩ := hrel
  cases gk with
  | zero => have := H.out; simp [ashlarref01_size.l0] at this
  | succ k1 =>
   have h := H.out
   clear H hn hn2
   simp only [ashlarref01_size.l0] at h
   by_cases c1 : i ≥ 0
   ·rw [if_pos c1] at h
    have e1 := eq_true c1
    obtain ⟨x, hx, h⟩ := Option.bind_eq_some_iff.1 h
    obtain ⟨y, hy, h⟩ := Option.bind_eq_some_iff.1 h
    have HX := Lib.hid hx
    have HY := Lib.hid hy
    clear hx hy c1
    by_cases c2 : x < y
    ·rw [if_pos c2] at h
     obtain rfl := Option.some.inj h
     have e2 := eq_true c2
     clear h c2
     go_wp2_with (go_at_call 111; first | (with_reducible refine (at_any HR0.out HX.out).mono ?_; rintro e w' ⟨rfl, rfl⟩) | (with_reducible refine (at_any HR1.out HY.out).mono ?_; rintro e w' ⟨rfl, rfl⟩))
     go_ret
     exact ⟨rfl, rfl⟩
    ·rw [if_neg c2] at h
     have e2 := eq_false c2
     clear c2
     by_cases c3 : x > y
     ·rw [if_pos c3] at h
      obtain rfl := Option.some.inj h
      have e3 := eq_true c3
      clear h c3
      go_wp2_with (go_at_call 111; first | (with_reducible refine (at_any HR0.out HX.out).mono ?_; rintro e w' ⟨rfl, rfl⟩) | (with_reducible refine (at_any HR1.out HY.out).mono ?_; rintro e w' ⟨rfl, rfl⟩))
      go_ret
      exact ⟨rfl, rfl⟩
     ·rw [if_neg c3] at h
      have e3 := eq_false c3
      have H := Lib.hid h
      clear h c3
      go_wp2_with (go_at_call 111; first | (with_reducible refine (at_any HR0.out HX.out).mono ?_; rintro e w' ⟨rfl, rfl⟩) | (with_reducible refine (at_any HR1.out HY.out).mono ?_; rintro e w' ⟨rfl, rfl⟩))
      go_roundg k1
      case measure => omega
      case rel => exact ⟨_, rfl, H, by omega, rfl⟩
   ·rw [if_neg c1] at h
    obtain rfl := Option.some.inj h
    have e1 := eq_false c1
    clear h c1
    go_wp2
    go_ret
    exact ⟨rfl, rfl⟩
set_option maxHeartbeats 4000000 in
set_option maxRecDepth 100000 in
theorem apart_any {k : Nat} {A0 A1 : Option Addr} {c0 c1 : Nat} {l0 l1 r : List Int} {w : World} (hr0 : Kd.C (Kd.int .i64) w A0 l0.length l0) (hr1 : Kd.C (Kd.int .i64) w A1 l1.length l1) (h : ashlarref01_apart.f k l0 l1 = some r) :
  Calls Tryz.prog 110 #[.slice A0 l0.length c0, .slice A1 l1.length c1] w fun e w' => ∃ v, e = .returned v ∧ RowJ w' w.heap.size v r ∧ Below w.heap.size w w' := by
 have HR0 := Lib.hid hr0
 have HR1 := Lib.hid hr1
 unfold ashlarref01_apart.f at h
 have H := Lib.hid h
 clear hr0 hr1 h
 go_enter Tryz.func110, Tryz.ntmps110
 go_wp2
 go_loopg [5, 6, 7] k (fun kq v5 v6 v7 w' => ∃ (l : List Int) (b i : Int), v6 = .int .i64 b ∧ v7 = .int .i64 i ∧ Hid (ashlarref01_apart.l0 kq l0 l1 l b i = some r) ∧ kq ≤ k ∧ Hid (RowJ w' w.heap.size v5 l) ∧ Hid (Below w.heap.size w w'))
 case atStart => exact ⟨[], 0, 0, rfl, rfl, H, Nat.le_refl _, Lib.hid (RowJ.nil (blk_new _ _) (Nat.le_refl _)), Lib.hid ((Below.refl _ _).alloc (Nat.le_refl _) _)⟩
 case round =>
  obtain ⟨l, b, i, rfl, rfl, H, hk, HJ, HB⟩ := hrel
  cases gk with
  | zero => have := H.out; simp [ashlarref01_apart.l0] at this
  | succ k1 =>
   have h := H.out
   clear H
   simp only [ashlarref01_apart.l0] at h
   by_cases c1 : i < (l0.length : Int)
   ·rw [if_pos c1] at h
    by_cases c2 : 0 ≤ i
    ·rw [if_pos c2] at h
     obtain ⟨y, hy, h⟩ := Option.bind_eq_some_iff.1 h
     obtain ⟨ad, rfl, q0⟩ := Kd.at_int (Kd.C_below HR0.out HB.out) i c2 c1
     have e1 := eq_true c1
     have e2 := eq_true c2
     have HY := Lib.hid hy
     have HR1' := Lib.hid (Kd.C_below HR1.out HB.out)
     obtain ⟨x, hx⟩ : ∃ x, rd l0 i = x := ⟨_, rfl⟩
     rw [hx] at h q0
     clear hy c1 c2 hx
     obtain ⟨d, hd⟩ : ∃ d, wrap64 (wrap64 (x - y) - b) = d := ⟨_, rfl⟩
     rw [hd] at h
     by_cases c3 : d < 0
     ·rw [if_pos c3] at h
      by_cases hl : l.length < 17592186044416
      ·rw [if_pos hl] at h
       have e3 := eq_true c3
       have HL := Lib.hid hl
       have H := Lib.hid h
       clear h c3 hl
       go_wp2
       go_quiet ((go_at_call 111; refine Calls.quiet_of_same (at_any (Kd.C_drewN HR1'.out _) HY.out)))
       go_wp2_with (at_builtin; refine wpList_appJ rfl (.tmp 30) (.tmp 32) rfl w.heap.size _ _ l rfl HJ.out rfl HL.out HB.out.size ?_; intro v1 w1 HJ1 HB1)
       go_roundg k1
       case measure => omega
       case rel => exact ⟨_, _, _, rfl, rfl, H, by omega, HJ1, Lib.hid ((pw_below_drewN HB.out _).trans HB1.out)⟩
      ·rw [if_neg hl] at h; cases h
     ·rw [if_neg c3] at h
      by_cases hl : l.length < 17592186044416
      ·rw [if_pos hl] at h
       have e3 := eq_false c3
       have HL := Lib.hid hl
       have H := Lib.hid h
       clear h c3 hl
       go_wp2
       go_quiet ((go_at_call 111; refine Calls.quiet_of_same (at_any (Kd.C_drewN HR1'.out _) HY.out)))
       go_wp2_with (at_builtin; refine wpList_appJ rfl (.tmp 30) (.tmp 32) rfl w.heap.size _ _ l rfl HJ.out rfl HL.out HB.out.size ?_; intro v1 w1 HJ1 HB1)
       go_roundg k1
       case measure => omega
       case rel => exact ⟨_, _, _, rfl, rfl, H, by omega, HJ1, Lib.hid ((pw_below_drewN HB.out _).trans HB1.out)⟩
      ·rw [if_neg hl] at h; cases h
    ·rw [if_neg c2] at h
     cases h
   ·rw [if_neg c1] at h
    obtain rfl := Option.some.inj h
    have e1 := eq_false c1
    clear h c1
    go_wp2
    go_ret
    exact ⟨_, rfl, HJ.out, HB.out⟩
end Go.Proofs.YtbpjnkeilhfajaaGreat.Rf
end

section
/- ashlarref01's Of, Int, Turn. -/
namespace Go.Proofs.YtbpjnkeilhfajaaGreat.Rf
open Go.RowKit Go.Proofs.YtbpjnkeilhfajaaGreat.Given Go.Proofs.YtbpjnkeilhfajaaGreat.PNumReckons Go.Proofs.YtbpjnkeilhfajaaGreatW.PrintWords Go.Proofs.YtbpjnkeilhfajaaGreatW.PrintLast Go.Proofs.YtbpjnkeilhfajaaGreatW.PrintMore Go.Proofs.YtbpjnkeilhfajaaGreat.Ref
set_option linter.unusedVariables false
set_option linter.unusedSimpArgs false
theorem RowJ.far {w : World} {base : Nat} {v : Value} {l : List Int} (h : RowJ w base v l) {g i : Nat} (hg : g < base) (u : Value) : RowJ (w.setCell ⟨g, i, none⟩ u) base v l := by
 obtain ⟨hl, hv⟩ := h
 refine ⟨hl, ?_⟩
 rcases hv with h | ⟨g', cap, cur, rfl, h1, hb, h2⟩
 ·exact .inl h
 ·exact .inr ⟨g', cap, cur, rfl, h1, blk_far hb (p := ⟨g, i, none⟩) (by show g' ≠ g; omega) u, h2⟩
theorem RowJ.sh {w : World} {base : Nat} {v : Value} {l : List Int} (h : RowJ w base v l) : ∃ A n c, v = .slice A n c := by
 obtain ⟨A, c, e, _⟩ := h.read
 exact ⟨A, _, c, e⟩
def Bx (w : World) (g : Nat) (x y : Value) : Prop := w.heap[g]? = some (.cells #[x, y] 91 (0, 0))
theorem Bx.cells {w : World} {g : Nat} {x y : Value} (h : Bx w g x y) : w.cell? ⟨g, 0, none⟩ = some x ∧ w.cell? ⟨g, 1, none⟩ = some y ∧ w.frozen? ⟨g, 0, none⟩ = false ∧ w.frozen? ⟨g, 1, none⟩ = false ∧ g < w.heap.size :=
 ⟨blk_cell h 0, blk_cell h 1, blk_frozen h 0, blk_frozen h 1, blk_lt h⟩
theorem Bx.put {w : World} {g : Nat} {x y : Value} (h : Bx w g x y) (x' y' : Value) : Bx ((w.setCell ⟨g, 0, none⟩ x').setCell ⟨g, 1, none⟩ y') g x' y' ∧ (w.setCell ⟨g, 0, none⟩ x').cell? ⟨g, 0, none⟩ = some x' ∧ ((w.setCell ⟨g, 0, none⟩ x').setCell ⟨g, 1, none⟩ y').cell? ⟨g, 1, none⟩ = some y' := by
 have h1 := blk_put h 0 x' rfl
 have h2 := blk_put h1 1 y' rfl
 exact ⟨h2, blk_cell h1 0, blk_cell h2 1⟩
theorem blk_newk {w : World} {k : Nat} (h : k = w.heap.size) (o : Obj) : (w.alloc o).heap[k]? = some o := by subst h; exact blk_new w o
theorem Bx.far {w : World} {g g' i : Nat} {x y u : Value} (h : Bx w g x y) (hne : g ≠ g') : Bx (w.setCell ⟨g', i, none⟩ u) g x y := blk_far h (p := ⟨g', i, none⟩) hne u
theorem Bx.keep {w w1 : World} {b g : Nat} {x y : Value} (h : Bx w g x y) (hb : Below b w w1) (hg : g < b) : Bx w1 g x y := (hb.block g hg).trans h
set_option maxHeartbeats 4000000 in
set_option maxRecDepth 100000 in
theorem Of_any {k : Nat} {a : Int} {r1 : Bool} {r2 : List Int} {w : World} (h : ashlarref01_Of.f k a = some (r1, r2)) :
  Calls Tryz.prog 72 #[.int .i64 a] w fun e w' => ∃ v, e = .returned (.agg #[.bool r1, v]) ∧ RowJ w' w.heap.size v r2 ∧ Below w.heap.size w w' := by
 unfold ashlarref01_Of.f at h
 have H := Lib.hid h
 clear h
 go_enter Tryz.func72, Tryz.ntmps72
 go_wp2
 go_loopg [0] k (fun kq v0 w' => ∃ (n : Int) (d : Bool) (l : List Int) (v : Value), v0 = .int .i64 n ∧ Hid (ashlarref01_Of.l0 kq n d l = some (r1, r2)) ∧ kq ≤ k ∧ Hid (Bx w' w.heap.size (.bool false) (.slice none 0 0)) ∧ Hid (Bx w' (w.heap.size + 1) (.bool d) v) ∧ Hid (RowJ w' (w.heap.size + 2) v l) ∧ Hid (Below w.heap.size w w'))
 case atStart => exact ⟨a, decide (a < 0), [], _, rfl, H, Nat.le_refl _, Lib.hid (blk_alloc (blk_new _ _) _), Lib.hid (blk_newk (by simp) _), Lib.hid RowJ.empty, Lib.hid (by repeat (first | exact Below.refl _ _ | with_reducible assumption | refine Below.alloc ?_ (by first | exact Nat.le_refl _ | (simp; done) | (simp; omega) | omega) _ | refine Below.setCell ?_ (by first | exact Nat.le_refl _ | (simp; done) | (simp; omega) | omega) _ | refine Below.drew ?_ | refine bdrewN ?_ _))⟩
 case round =>
  obtain ⟨n, d, l, v, rfl, H, hk, HX, HY, HJ, HB⟩ := hrel
  cases gk with
  | zero => have := H.out; simp [ashlarref01_Of.l0] at this
  | succ k1 =>
   have h := H.out
   clear H
   simp only [ashlarref01_Of.l0] at h
   obtain ⟨p0, p1, p2, p3, p4⟩ := HX.out.cells
   obtain ⟨q0, q1, q2, q3, q4⟩ := HY.out.cells
   by_cases c1 : n = 0
   ·rw [if_pos c1] at h
    obtain ⟨rfl, rfl⟩ := Prod.mk.inj (Option.some.inj h)
    have e1 := eq_true c1
    obtain ⟨A1, c1, rfl, -, -⟩ := HJ.out.read
    obtain ⟨-, z0, z1⟩ := HX.out.put (.bool d) (.slice A1 l.length c1)
    clear h
    go_wp2
    exact bodyPost_ret (v := .agg #[.bool d, .slice A1 l.length c1]) (by simp [results, Tryz.results72, go_sem, z0, z1]) rfl ⟨_, rfl, (((HJ.out.far (by omega) _).far (by omega) _).low (by omega)), (HB.out.setCell (Nat.le_refl _) _).setCell (Nat.le_refl _) _⟩
   ·rw [if_neg c1] at h
    have e1 : (n != 0) = true := by simp [c1]
    clear c1
    obtain ⟨m, hm⟩ : ∃ m, Int.tmod n 10 = m := ⟨_, rfl⟩
    rw [hm] at h
    by_cases c2 : m < 0
    ·rw [if_pos c2] at h
     by_cases hl : l.length < 17592186044416
     ·rw [if_pos hl] at h
      have e2 := eq_true c2
      have HL := Lib.hid hl
      have H := Lib.hid h
      clear h c2 hl
      go_wp2_with (at_builtin; refine wpList_appJ rfl (.tmp 17) (.tmp 19) rfl (w.heap.size + 2) _ _ l rfl HJ.out rfl HL.out (by omega) ?_; intro v1 w1 HJ1 HB1; obtain ⟨A1, n1, k1_, rfl⟩ := HJ1.out.sh; have HX1 := Lib.hid (HX.out.keep HB1.out (by omega)); have HY1 := Lib.hid (HY.out.keep HB1.out (by omega)); obtain ⟨s0, s1, s2, s3, s4⟩ := HY1.out.cells)
      go_roundg k1
      case measure => omega
      case rel => refine ⟨_, d, _, _, rfl, H, ?_, Lib.hid (HX1.out.far ?_), Lib.hid (blk_put HY1.out 1 _ rfl), Lib.hid (HJ1.out.far ?_ _), Lib.hid ((HB.out.trans (HB1.out.mono (show w.heap.size ≤ w.heap.size + 2 by omega))).setCell ?_ _)⟩ <;> (try simp only []) <;> omega
     ·rw [if_neg hl] at h; cases h
    ·rw [if_neg c2] at h
     by_cases hl : l.length < 17592186044416
     ·rw [if_pos hl] at h
      have e2 := eq_false c2
      have HL := Lib.hid hl
      have H := Lib.hid h
      clear h c2 hl
      go_wp2_with (at_builtin; refine wpList_appJ rfl (.tmp 17) (.tmp 19) rfl (w.heap.size + 2) _ _ l rfl HJ.out rfl HL.out (by omega) ?_; intro v1 w1 HJ1 HB1; obtain ⟨A1, n1, k1_, rfl⟩ := HJ1.out.sh; have HX1 := Lib.hid (HX.out.keep HB1.out (by omega)); have HY1 := Lib.hid (HY.out.keep HB1.out (by omega)); obtain ⟨s0, s1, s2, s3, s4⟩ := HY1.out.cells)
      go_roundg k1
      case measure => omega
      case rel => refine ⟨_, d, _, _, rfl, H, ?_, Lib.hid (HX1.out.far ?_), Lib.hid (blk_put HY1.out 1 _ rfl), Lib.hid (HJ1.out.far ?_ _), Lib.hid ((HB.out.trans (HB1.out.mono (show w.heap.size ≤ w.heap.size + 2 by omega))).setCell ?_ _)⟩ <;> (try simp only []) <;> omega
     ·rw [if_neg hl] at h; cases h
set_option maxHeartbeats 4000000 in
set_option maxRecDepth 100000 in
theorem Int_any {k : Nat} {b : Bool} {A : Option Addr} {c : Nat} {l : List Int} {r1 : Int} {r2 : Bool} {w : World} (hr : Kd.C (Kd.int .i64) w A l.length l) (h : ashlarref01_Int.f k b l = some (r1, r2)) :
  Calls Tryz.prog 70 #[.agg #[.bool b, .slice A l.length c]] w fun e w' => e = .returned (.tuple #[.int .i64 r1, .bool r2]) ∧ Below w.heap.size w w' := by
 unfold ashlarref01_Int.f at h
 obtain ⟨n, hn⟩ : ∃ n, wrap64 ((l.length : Int) - 1) = n := ⟨_, rfl⟩
 rw [hn] at h
 have H := Lib.hid h
 have HR := Lib.hid hr
 have HB : Hid (Below w.heap.size w (w.alloc (.cells #[.bool b, .slice A l.length c] 91))) := Lib.hid ((Below.refl _ _).alloc (Nat.le_refl _) _)
 obtain ⟨q0, q1, q2, q3, q4⟩ := Bx.cells (blk_new w (.cells #[.bool b, .slice A l.length c] 91))
 clear h hr
 go_enter Tryz.func70, Tryz.ntmps70
 go_wp2
 go_loopg [4, 5] k (fun kq v4 v5 w' => ∃ s i : Int, v4 = .int .i64 s ∧ v5 = .int .i64 i ∧ Hid (ashlarref01_Int.l0 kq s i b l = some (r1, r2)) ∧ kq ≤ k ∧ w' = w.alloc (.cells #[.bool b, .slice A l.length c] 91))
 case atStart => exact ⟨0, n, rfl, by first | rfl | (simp [*]; done), H, Nat.le_refl _, rfl⟩
 case round =>
  obtain ⟨s, i, rfl, rfl, H, hk, rfl⟩ := hrel
  cases gk with
  | zero => have := H.out; simp [ashlarref01_Int.l0] at this
  | succ k1 =>
   have h := H.out
   clear H hn
   simp only [ashlarref01_Int.l0] at h
   by_cases c1 : i ≥ 0
   ·rw [if_pos c1, if_pos c1] at h
    by_cases c2 : i < (l.length : Int)
    ·rw [if_pos c2] at h
     obtain ⟨ad, rfl, x0⟩ := Kd.at_int (Kd.C_below HR.out HB.out) i c1 c2
     obtain ⟨x, hx⟩ : ∃ x, rd l i = x := ⟨_, rfl⟩
     rw [hx] at h x0
     have e1 := eq_true c1
     have e2 := eq_true c2
     have e1' : (0 ≤ i) = True := eq_true c1
     clear c1 c2 hx
     by_cases c3 : s < wrap64 (Int.tdiv (wrap64 ((-9223372036854775808) + x)) 10)
     ·rw [if_pos c3] at h
      obtain ⟨rfl, rfl⟩ := Prod.mk.inj (Option.some.inj h)
      have e3 := eq_true c3
      clear h c3
      go_wp2
      go_ret2
      exact ⟨rfl, HB.out⟩
     ·rw [if_neg c3] at h
      have e3 := eq_false c3
      have H := Lib.hid h
      clear h c3
      go_wp2
      go_roundg k1
      case measure => omega
      case rel => exact ⟨_, _, rfl, rfl, H, by omega, rfl⟩
    ·rw [if_neg c2] at h; cases h
   ·rw [if_neg c1] at h
    have e1 := eq_false c1
    clear c1
    cases b
    ·by_cases c3 : s = -9223372036854775808
     ·rw [if_neg (by decide), if_pos c3] at h
      obtain ⟨rfl, rfl⟩ := Prod.mk.inj (Option.some.inj h)
      have e3 : (s == -9223372036854775808) = true := by simp [c3]
      clear h
      go_wp2
      go_ret2
      exact ⟨rfl, HB.out⟩
     ·rw [if_neg (by decide), if_neg c3] at h
      obtain ⟨rfl, rfl⟩ := Prod.mk.inj (Option.some.inj h)
      have e3 : (s == -9223372036854775808) = false := by simp [c3]
      clear h
      go_wp2
      go_ret2
      exact ⟨rfl, HB.out⟩
    ·rw [if_pos rfl] at h
     obtain ⟨rfl, rfl⟩ := Prod.mk.inj (Option.some.inj h)
     clear h
     go_wp2
     go_ret2
     exact ⟨rfl, HB.out⟩
end Go.Proofs.YtbpjnkeilhfajaaGreat.Rf
end
