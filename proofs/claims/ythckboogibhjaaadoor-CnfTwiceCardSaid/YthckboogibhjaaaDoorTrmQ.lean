/- Plain: the table of operations, and whether a term is right but for its size. -/
import Derived.Test.YthckboogibhjaaaDoorTrmN
namespace Go.Proofs.YthckboogibhjaaaDoor.Trm
set_option linter.unusedVariables false
set_option linter.unusedSimpArgs false
open Go.RowKit Go.Proofs.YthckboogibhjaaaDoorW.PrintWords Go.Proofs.YthckboogibhjaaaDoorW.PrintMore

theorem wrapj {j : Nat} (h : j + 1 < 9223372036854775808) : wrap64 ((j : Int) + 1) = ((j + 1 : Nat) : Int) := by unfold wrap64; omega

/-- An operation's sort, and what it has. -/
structure Shp where
  sort : Int
  name : Bool
  number : Bool
  a : List Int
  many : Bool

def shps : List Shp := [⟨0, false, false, [], false⟩,
  ⟨1, false, true, [], false⟩, ⟨1, true, false, [], false⟩, ⟨1, false, false, [2], false⟩, ⟨1, false, false, [1, 1], false⟩, ⟨1, false, false, [1, 1], false⟩, ⟨1, false, true, [1], false⟩,
  ⟨2, true, false, [], false⟩, ⟨2, false, false, [], false⟩, ⟨2, false, false, [], false⟩, ⟨2, false, false, [3], false⟩, ⟨2, false, false, [2, 2], false⟩, ⟨2, false, false, [2, 2], false⟩, ⟨2, false, false, [2, 2], false⟩,
  ⟨3, true, false, [], false⟩, ⟨4, true, false, [], false⟩, ⟨4, false, false, [], false⟩, ⟨4, false, false, [], false⟩, ⟨4, false, false, [4], false⟩, ⟨4, false, false, [4], true⟩, ⟨4, false, false, [4], true⟩, ⟨4, false, false, [4, 4], false⟩,
  ⟨4, false, false, [1, 1], false⟩, ⟨4, false, false, [1, 1], false⟩, ⟨4, false, false, [1, 1], false⟩, ⟨4, false, false, [3, 2], false⟩, ⟨4, false, false, [2, 2], false⟩, ⟨4, false, false, [2, 2], false⟩, ⟨4, false, false, [3, 3], false⟩]
def shp (i : Nat) : Shp := shps.getD i ⟨0, false, false, [], false⟩

theorem shps_many : ∀ s ∈ shps, s.many = true → s.a = [4] := by decide
theorem shp_mem {i : Nat} (h : i < 29) : shp i ∈ shps := by
  have : shp i = shps[i]'h := by unfold shp; rw [List.getD_eq_getElem?_getD, List.getElem?_eq_getElem (show i < shps.length from h)]; rfl
  rw [this]; exact List.getElem_mem _
theorem shp_many {i : Nat} (h : i < 29) (hm : (shp i).many = true) : (shp i).a = [4] := shps_many _ (shp_mem h) hm
theorem shps_len : ∀ s ∈ shps, s.a.length ≤ 2 := by decide
theorem shp_len {i : Nat} (h : i < 29) : (shp i).a.length ≤ 2 := shps_len _ (shp_mem h)

/-- What a term has of its own is as its operation wants it. -/
def okHead (s : Shp) (nm : ByteArray) (n : Int) (len : Nat) (want : Int) : Bool :=
  !(decide (want ≠ 0) && decide (s.sort ≠ want) || s.name && !nameB nm || !s.name && !nm.toList.isEmpty || !s.number && decide (n ≠ 0) || !s.many && ((len : Int) != (s.a.length : Int)))

theorem ok_len {s : Shp} {nm : ByteArray} {n : Int} {len : Nat} {want : Int} (h : okHead s nm n len want = true) (hm : s.many = false) : len = s.a.length := by
  unfold okHead at h
  simp only [hm, Bool.not_false, Bool.true_and, Bool.not_eq_true', Bool.or_eq_false_iff, bne_eq_false_iff_eq] at h
  omega

mutual
/-- term.right. -/
def rightT : S24 → Int → Bool
  | ⟨op, nm, n, l⟩, want => if op < 1 ∨ 28 < op then false else okHead (shp op.toNat) nm n l.length want && rightL l (shp op.toNat) 0
def rightL : List S24 → Shp → Nat → Bool
  | [], _, _ => true
  | x :: l, s, i => rightT x (s.a.getD (if s.many = true then 0 else i) 0) && rightL l s (i + 1)
end
theorem rightT_mk (t : S24) (want : Int) : rightT t want = if t.f0 < 1 ∨ 28 < t.f0 then false else okHead (shp t.f0.toNat) t.f1 t.f2 t.f3.length want && rightL t.f3 (shp t.f0.toNat) 0 := by cases t; rw [rightT]

/-- The table in memory. -/
def TabAt (W : World) (bt : Nat) : Prop := ∀ i, i < 29 → ∃ A : Option Addr, W.cell? ⟨bt, i * 5, none⟩ = some (.int .i64 (shp i).sort) ∧ W.cell? ⟨bt, i * 5 + 1, none⟩ = some (.bool (shp i).name) ∧ W.cell? ⟨bt, i * 5 + 2, none⟩ = some (.bool (shp i).number) ∧ W.cell? ⟨bt, i * 5 + 3, none⟩ = some (.slice A (shp i).a.length (shp i).a.length) ∧ W.cell? ⟨bt, i * 5 + 4, none⟩ = some (.bool (shp i).many) ∧ Kd.C (Kd.int .i64) W A (shp i).a.length (shp i).a
end Go.Proofs.YthckboogibhjaaaDoor.Trm
