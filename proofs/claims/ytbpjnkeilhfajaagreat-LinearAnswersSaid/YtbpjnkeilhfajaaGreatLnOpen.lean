import Derived.Test.YtbpjnkeilhfajaaGreatLinT
import Derived.Test.YtbpjnkeilhfajaaGreatChecked
import Derived.Lib.SmallJoins
import Derived.Deep.Slices
import Derived.ProofKit
section
/- A law's argument that is a row of rows, or of numbers, opened. -/
namespace Go.Proofs.YtbpjnkeilhfajaaGreat.Ln
set_option linter.unusedVariables false
set_option linter.unusedSimpArgs false
open Go.RowKit Go.Proofs.YtbpjnkeilhfajaaGreatW.PrintWords Go.Deep Go.Joins Go.WideShapes Go.ChangeShapes
section
variable {H : Type} {enc : TypeId × Value → H} {W : World}
theorem trod_row {α : Type} (dflt : α) (d : Kd α) {e t : TypeId} (ht : Tryz.prog.underlying t = some (.slice e)) (hsz : Tryz.prog.cellsOf e = d.sz) (G : α → Prop)
  (hel : ∀ n cs x, DataW.trod enc Tryz.prog W 0 (fun _ => true) true n e cs = some x → ∃ a, d.K W a cs ∧ G a) {fuel : Nat} {cs : List Value} {x : DataW H × List MemPlace}
  (h : DataW.trod enc Tryz.prog W 0 (fun _ => true) true fuel t cs = some x) :
  ∃ (xs : List α) (A : Option Addr) (c : Nat), cs = [.slice A xs.length c] ∧ xs.length ≤ c ∧ d.C W A xs.length xs ∧ ∀ a, a ∈ xs → G a := by
 rcases DataW.trod_slice ht h with ⟨e3, -⟩ | ⟨ad, len, cap, elems, rest, q, rfl, e3, -, -, hc, hm, hle, hq, -, -⟩
 ·exact ⟨[], none, 0, e3, Nat.le_refl _, Kd.C_nil _ _, fun a ha => by cases ha⟩
 ·have hex : ∀ i, i < len → ∃ t : α, ∃ cs', cs'.length = d.sz ∧ (∀ j, j < d.sz → W.cell? ((ad.add (i * d.sz)).add j) = cs'[j]?) ∧ d.K W t cs' ∧ G t := by
   intro i hi
   have h1 := hq i hi
   rw [hsz, List.getElem?_eq_getElem (by omega)] at h1
   obtain ⟨cs', h2, h3⟩ := Option.bind_eq_some_iff.1 h1
   obtain ⟨-, h4, h5⟩ := World.cells?_some h2
   obtain ⟨t, ht, hg⟩ := hel q cs' _ h3
   exact ⟨t, cs', h4, h5, ht, hg⟩
  have : Inhabited α := ⟨dflt⟩
  obtain ⟨f, hf2⟩ := choose_lt hex
  have hll : ((List.range len).map f).length = len := by simp
  refine ⟨(List.range len).map f, some ad, cap, by rw [hll]; exact e3, by rw [hll]; exact hc, ⟨rfl, by rw [hll]; unfold maxLen at hm; omega, fun _ => ⟨_, rfl, fun j p hj => ?_⟩⟩, fun a ha => ?_⟩
  ·have hjl : j < len := by have := (List.getElem?_eq_some_iff.1 hj).1; omega
   obtain ⟨cs', g1, g2, g3, _⟩ := hf2 j hjl
   have hp : p = f j := by
    rw [List.getElem?_map, List.getElem?_range hjl] at hj
    simpa using hj.symm
   subst hp
   refine ⟨cs', g1, g3, fun i u hu => ?_⟩
   have hi : i < d.sz := by have := (List.getElem?_eq_some_iff.1 hu).1; omega
   have := g2 i hi
   rw [hu] at this
   have ea : (ad.add (j * d.sz)).add i = ad.add (j * d.sz + i) := Addr.add_add ad (j * d.sz) i
   rw [← ea]; exact this
  ·obtain ⟨i, hi, rfl⟩ := List.mem_map.1 ha
   exact (hf2 i (List.mem_range.1 hi)).choose_spec.2.2.2
theorem cellsI64 : Tryz.prog.cellsOf 2 = 1 := by kernel_rfl
theorem cellsR : Tryz.prog.cellsOf 23 = 1 := by kernel_rfl
theorem cellsRow : Tryz.prog.cellsOf 40 = 2 := by kernel_rfl
theorem trod_i64 {n : Nat} {cs : List Value} {x : DataW H × List MemPlace} (h : DataW.trod enc Tryz.prog W 0 (fun _ => true) true n 2 cs = some x) : ∃ a : Int, (Kd.int .i64).K W a cs ∧ (Lit.int .i64 a).wf = true := by
 obtain ⟨k, e, -, hw⟩ := DataW.trod_int Tryz.underlying2 h
 exact ⟨k, e, hw⟩
theorem two' {α : Type} {cs : List α} (h : cs.length = 2) : ∃ a b, cs = [a, b] := by
 match cs, h with
 | [a, b], _ => exact ⟨a, b, rfl⟩
def RowWf (r : S40) : Prop := (Lit.int .i64 r.f1).wf = true ∧ ∀ x, x ∈ r.f0 → (Lit.int .i64 x).wf = true
set_option maxRecDepth 100000 in
theorem trod_Row {n : Nat} {cs : List Value} {x : DataW H × List MemPlace} (h : DataW.trod enc Tryz.prog W 0 (fun _ => true) true n 40 cs = some x) : ∃ r : S40, k40.K W r cs ∧ RowWf r := by
 obtain ⟨xs, m, rfl, -, hl, hlen, hf⟩ := DataW.trod_struct Tryz.underlying40 h
 rw [cellsRow] at hl
 obtain ⟨a, b, rfl⟩ := two' hl
 have f0 : DataW.trod enc Tryz.prog W 0 (fun _ => true) true m 23 (List.take (Tryz.prog.cellsOf 23) (List.drop 0 [a, b])) = xs[0]? := hf 0 _ rfl
 have f1 : DataW.trod enc Tryz.prog W 0 (fun _ => true) true m 2 (List.take (Tryz.prog.cellsOf 2) (List.drop 1 [a, b])) = xs[1]? := hf 1 _ rfl
 rw [cellsR] at f0
 rw [cellsI64] at f1
 simp only [List.drop_zero, List.drop_succ_cons, List.take_succ_cons, List.take_zero] at f0 f1
 obtain ⟨y0, y1, rfl⟩ := two' (show xs.length = 2 from hlen)
 obtain ⟨k1, e1, -, w1⟩ := DataW.trod_int Tryz.underlying2 f1
 obtain rfl : b = _ := by simpa using e1
 obtain ⟨l, A, c, e0, hle, hC, hw⟩ := trod_row (0 : Int) (Kd.int .i64) Tryz.underlying23 cellsI64 (fun a => (Lit.int .i64 a).wf = true) (fun n cs x h => trod_i64 h) f0
 obtain rfl : a = _ := by simpa using e0
 exact ⟨⟨l, k1⟩, k40_mk W ⟨l, k1⟩ hle hC, w1, hw⟩
set_option maxRecDepth 100000 in
theorem open_rows {v : Value} {d : DataW H} {p : List MemPlace} {r : Reach} {b0 : Nat} (hv : Value.okWide Tryz.prog W r b0 22 v) (h : DataW.Trod enc Tryz.prog W 0 (fun _ => true) true 22 v d p) :
  ∃ (l : List S40) (A : Option Addr) (c : Nat), v = .slice A l.length c ∧ l.length ≤ c ∧ Kd.C k40 W A l.length l ∧ ∀ r, r ∈ l → RowWf r := by
 obtain ⟨a, len, cap, rfl⟩ := okWide_slice Tryz.underlying22 hv
 obtain ⟨n, hn⟩ := h
 obtain ⟨l, A, c, e, hle, hC, hw⟩ := trod_row z40 k40 Tryz.underlying22 cellsRow RowWf (fun n cs x h => trod_Row h) hn
 have e' : [Value.slice a len cap] = [.slice A l.length c] := e
 injection e' with e'
 exact ⟨l, A, c, e', hle, hC, hw⟩
set_option maxRecDepth 100000 in
theorem open_nums {k : IntKind} {t e : TypeId} (ht : Tryz.prog.underlying t = some (.slice e)) (he : Tryz.prog.underlying e = some (.int k)) (hc1 : Tryz.prog.cellsOf e = 1) {v : Value} {d : DataW H} {p : List MemPlace} {r : Reach} {b0 : Nat} (hv : Value.okWide Tryz.prog W r b0 t v) (h : DataW.Trod enc Tryz.prog W 0 (fun _ => true) true t v d p) :
  ∃ (l : List Int) (A : Option Addr) (c : Nat), v = .slice A l.length c ∧ l.length ≤ c ∧ (Kd.int k).C W A l.length l ∧ ∀ x, x ∈ l → (Lit.int k x).wf = true := by
 obtain ⟨a, len, cap, rfl⟩ := okWide_slice ht hv
 obtain ⟨n, hn⟩ := h
 obtain ⟨l, A, c, e', hle, hC, hw⟩ := trod_row (0 : Int) (Kd.int k) ht hc1 (fun x => (Lit.int k x).wf = true) (fun n cs x h => by
  obtain ⟨y, e1, -, hw⟩ := DataW.trod_int he h
  exact ⟨y, e1, hw⟩) hn
 have e2 : [Value.slice a len cap] = [.slice A l.length c] := e'
 injection e2 with e2
 exact ⟨l, A, c, e2, hle, hC, hw⟩
end
end Go.Proofs.YtbpjnkeilhfajaaGreat.Ln
end

section
/- A law's argument that is a row (a struct), or a number, opened. -/
namespace Go.Proofs.YtbpjnkeilhfajaaGreat.Ln
set_option linter.unusedVariables false
open Go.RowKit Go.Proofs.YtbpjnkeilhfajaaGreatW.PrintWords Go.Deep Go.Joins Go.WideShapes Go.ChangeShapes
section
variable {H : Type} {enc : TypeId × Value → H} {W : World}
set_option maxRecDepth 100000 in
theorem open_int {k : IntKind} {t : TypeId} (ht : Tryz.prog.underlying t = some (.int k)) {v : Value} {d : DataW H} {p : List MemPlace} {r : Reach} {b0 : Nat} (hv : Value.okWide Tryz.prog W r b0 t v) (h : DataW.Trod enc Tryz.prog W 0 (fun _ => true) true t v d p) :
  ∃ x : Int, v = .int k x ∧ (Lit.int k x).wf = true := by
 obtain ⟨x, rfl⟩ := okWide_int ht hv
 obtain ⟨n, hn⟩ := h
 obtain ⟨y, e, -, hw⟩ := DataW.trod_int ht hn
 have e' : [Value.int k x] = [.int k y] := e
 injection e' with e'
 injection e' with _ e'
 exact ⟨x, rfl, e' ▸ hw⟩
end
end Go.Proofs.YtbpjnkeilhfajaaGreat.Ln
end
