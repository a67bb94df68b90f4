/- A law's argument that is a term, opened: its value, and that it can be read. -/
import Derived.Test.YthckboogibhjaaaDoorTrmA
import Derived.Test.YthckboogibhjaaaDoorChecked
import Derived.Lib.SmallJoins
import Derived.Deep.Slices
import Derived.ProofKit
namespace Go.Proofs.YthckboogibhjaaaDoor.Trm
set_option linter.unusedVariables false
set_option linter.unusedSimpArgs false
open Go.RowKit Go.Proofs.YthckboogibhjaaaDoorW.PrintWords Go.Deep Go.Joins Go.WideShapes Go.ChangeShapes

theorem cellsT : Tryd.prog.cellsOf 24 = 4 := by kernel_rfl
theorem cellsI : Tryd.prog.cellsOf 3 = 1 := by kernel_rfl
theorem cellsI64 : Tryd.prog.cellsOf 2 = 1 := by kernel_rfl
theorem cellsS : Tryd.prog.cellsOf 9 = 1 := by kernel_rfl
theorem cellsR : Tryd.prog.cellsOf 22 = 1 := by kernel_rfl
instance : Inhabited S24 := ⟨z24⟩

section
variable {H : Type} {enc : TypeId × Value → H} {W : World}
theorem four {cs : List Value} (h : cs.length = 4) : ∃ a b c d, cs = [a, b, c, d] := by
  match cs, h with
  | [a, b, c, d], _ => exact ⟨a, b, c, d, rfl⟩

theorem trod_T : ∀ (n : Nat) (cs : List Value) (x : DataW H × List MemPlace), DataW.trod enc Tryd.prog W 0 (fun _ => true) true n 24 cs = some x → ∃ t : S24, k24.K W t cs := by
  intro n
  induction n using Nat.strongRecOn with
  | _ n ih =>
    intro cs x h
    obtain ⟨xs, m, rfl, -, hl, hlen, hf⟩ := DataW.trod_struct Tryd.underlying24 h
    rw [cellsT] at hl
    obtain ⟨a, b, c, d, rfl⟩ := four hl
    have f0 : DataW.trod enc Tryd.prog W 0 (fun _ => true) true m 3 (List.take (Tryd.prog.cellsOf 3) (List.drop 0 [a, b, c, d])) = xs[0]? := hf 0 _ rfl
    have f1 : DataW.trod enc Tryd.prog W 0 (fun _ => true) true m 9 (List.take (Tryd.prog.cellsOf 9) (List.drop 1 [a, b, c, d])) = xs[1]? := hf 1 _ rfl
    have f2 : DataW.trod enc Tryd.prog W 0 (fun _ => true) true m 2 (List.take (Tryd.prog.cellsOf 2) (List.drop 2 [a, b, c, d])) = xs[2]? := hf 2 _ rfl
    have f3 : DataW.trod enc Tryd.prog W 0 (fun _ => true) true m 22 (List.take (Tryd.prog.cellsOf 22) (List.drop 3 [a, b, c, d])) = xs[3]? := hf 3 _ rfl
    rw [cellsI] at f0
    rw [cellsS] at f1
    rw [cellsI64] at f2
    rw [cellsR] at f3
    simp only [List.drop_zero, List.drop_succ_cons, List.take_succ_cons, List.take_zero] at f0 f1 f2 f3
    match xs, hlen with
    | [y0, y1, y2, y3], _ =>
      obtain ⟨k0, e0, -, -⟩ := DataW.trod_int Tryd.underlying3 f0
      obtain ⟨k1, e1, -, -⟩ := DataW.trod_string Tryd.underlying9 f1
      obtain ⟨k2, e2, -, -⟩ := DataW.trod_int Tryd.underlying2 f2
      obtain rfl : a = _ := by simpa using e0
      obtain rfl : b = _ := by simpa using e1
      obtain rfl : c = _ := by simpa using e2
      rcases DataW.trod_slice Tryd.underlying22 f3 with ⟨e3, -⟩ | ⟨ad, len, cap, elems, rest, q, rfl, e3, -, -, hc, hm, hle, hel, -, -⟩
      · obtain rfl : d = _ := by simpa using e3
        exact ⟨⟨k0, k1, k2, []⟩, k24_mk W ⟨k0, k1, k2, []⟩ (Nat.le_refl _) (Kd.C_nil _ _)⟩
      · obtain rfl : d = _ := by simpa using e3
        have hex : ∀ i, i < len → ∃ t : S24, ∃ cs', cs'.length = 4 ∧ (∀ j, j < 4 → W.cell? ((ad.add (i * 4)).add j) = cs'[j]?) ∧ k24.K W t cs' := by
          intro i hi
          have h1 := hel i hi
          rw [cellsT, List.getElem?_eq_getElem (by omega)] at h1
          obtain ⟨cs', h2, h3⟩ := Option.bind_eq_some_iff.1 h1
          obtain ⟨-, h4, h5⟩ := World.cells?_some h2
          obtain ⟨t, ht⟩ := ih q (by omega) cs' _ h3
          exact ⟨t, cs', h4, h5, ht⟩
        obtain ⟨f, hf2⟩ := choose_lt hex
        refine ⟨⟨k0, k1, k2, (List.range len).map f⟩, ?_⟩
        have hll : ((List.range len).map f).length = len := by simp
        have hC : Kd.C k24 W (some ad) ((List.range len).map f).length ((List.range len).map f) := by
          refine ⟨rfl, by rw [hll]; unfold maxLen at hm; omega, fun _ => ⟨_, rfl, fun j p hj => ?_⟩⟩
          have hjl : j < len := by have := (List.getElem?_eq_some_iff.1 hj).1; omega
          obtain ⟨cs', g1, g2, g3⟩ := hf2 j hjl
          have hp : p = f j := by
            rw [List.getElem?_map, List.getElem?_range hjl] at hj
            simpa using hj.symm
          subst hp
          refine ⟨cs', g1, g3, fun i u hu => ?_⟩
          have hi : i < 4 := by have := (List.getElem?_eq_some_iff.1 hu).1; omega
          have := g2 i hi
          rw [hu] at this
          have ea : (ad.add (j * 4)).add i = ad.add (j * k24.sz + i) := by
            exact Addr.add_add ad (j * 4) i
          rw [← ea]; exact this
        have := k24_mk W ⟨k0, k1, k2, (List.range len).map f⟩ (A3 := some ad) (c3 := cap) (by show ((List.range len).map f).length ≤ cap; omega) hC
        simpa [hll] using this

/-- The argument. -/
theorem open_T {v : Value} {d : DataW H} {p : List MemPlace} {r : Reach} {b0 : Nat} (hv : Value.okWide Tryd.prog W r b0 24 v) (h : DataW.Trod enc Tryd.prog W 0 (fun _ => true) true 24 v d p) :
    ∃ (t : S24) (A : Option Addr) (c : Nat), v = .agg #[.int .i64 t.f0, .string t.f1, .int .i64 t.f2, .slice A t.f3.length c] ∧ t.f3.length ≤ c ∧ Kd.C k24 W A t.f3.length t.f3 := by
  obtain ⟨cs, rfl, hsz⟩ := okWide_struct Tryd.underlying24 hv
  obtain ⟨c0, c1, c2, c3, rfl⟩ := array4 (hsz.trans cellsT)
  obtain ⟨n, hn⟩ := h
  obtain ⟨t, ht⟩ := trod_T n _ _ hn
  obtain ⟨A, c, e, hl, hC⟩ := k24_open ht
  have e' : [c0, c1, c2, c3] = [.int .i64 t.f0, .string t.f1, .int .i64 t.f2, .slice A t.f3.length c] := e
  exact ⟨t, A, c, by rw [show (#[c0, c1, c2, c3] : Array Value) = #[.int .i64 t.f0, .string t.f1, .int .i64 t.f2, .slice A t.f3.length c] from congrArg List.toArray e'], hl, hC⟩
end
end Go.Proofs.YthckboogibhjaaaDoor.Trm
