/- The kinds of api.Row and num.Rat in memory, as the printer of the kit writes them. -/
import Derived.Test.YtdkbnbebioflaaaProg
import Derived.Below
import Derived.Deep.Draws
import Derived.Deep.AppendLies
import Derived.Maps.AppendAt
import Derived.OwnWalk
import Derived.Laws.BytesArg
import Derived.Laws.MakeOwn
import Derived.Laws.OwnMore
import Derived.Deep.OwnRows
import Derived.Tactics
import Derived.Lib.ConvBytes
import Derived.Laws.Slices
import Derived.WalkKit
import Derived.KernelRfl
import Derived.RowKit3
import Derived.Deep.LoopGhost
import Derived.Deep.QuietTactic
import Derived.BigQuiet
import Derived.WideLaws
import Derived.Deep.DeepCutAuto
import Derived.Deep.CutBlock
import Derived.Deep.RegionHeld3
import Derived.Laws.Rows
import Derived.Lib.AppendStr
import Derived.ArgAppend
import Derived.Laws.IdiomCopy
import Derived.OrdersHeld
import Derived.Laws.BitsLemmas
import Derived.RowKit
import Derived.Test.YtdkbnbebioflaaaWWords
import Derived.Test.YtdkbnbebioflaaaWLast
import Derived.Test.YtdkbnbebioflaaaWTab
import Derived.Test.YtdkbnbebioflaaaWArr
import Derived.Test.YtdkbnbebioflaaaWMore
namespace Go.Proofs.Ytdkbnbebioflaaa.Ln
open Go.RowKit Go.Proofs.YtdkbnbebioflaaaW.PrintWords Go.Proofs.YtdkbnbebioflaaaW.PrintLast Go.Proofs.YtdkbnbebioflaaaW.PrintMore
set_option linter.unusedVariables false
set_option linter.unusedSimpArgs false

-- the values' own types
/-! #### api.Row -/
structure S38 where
  f0 : (List Int)
  f1 : Int
def z38 : S38 := ⟨([] : List Int), (0 : Int)⟩
def k38 : Kd S38 := Kd.iso (Kd.pair (Kd.slice 2 (Kd.int .i64)) (Kd.int .i64)) (fun x : S38 => (x.f0, x.f1))
theorem k38_open {w : World} {x : S38} {cs : List Value} (h : k38.K w x cs) : ∃ A0 c0, cs = [.slice A0 x.f0.length c0, .int .i64 x.f1] ∧ x.f0.length ≤ c0 ∧ (Kd.int .i64).C w A0 x.f0.length x.f0 := by
  obtain ⟨_, _, rfl, ⟨A0, c0, rfl, l0, g0⟩, rfl⟩ := h
  exact ⟨A0, c0, rfl, l0, g0⟩
theorem k38_mk (w : World) (x : S38) {A0 : Option Addr} {c0 : Nat} (l0 : x.f0.length ≤ c0) (g0 : (Kd.int .i64).C w A0 x.f0.length x.f0) : k38.K w x [.slice A0 x.f0.length c0, .int .i64 x.f1] := ⟨[.slice A0 x.f0.length c0], [.int .i64 x.f1], rfl, ⟨A0, c0, rfl, l0, g0⟩, rfl⟩
theorem k38_mkM (w : World) (base : Nat) (ok : Nat → Prop) (x : S38) {v0 : Value} (g0 : (Kd.int .i64).R 2 w base ok v0 x.f0) : k38.M w base ok x [v0, .int .i64 x.f1] := ⟨[v0], [.int .i64 x.f1], rfl, ⟨v0, rfl, g0⟩, rfl⟩
def rd_T38 (xs : List S38) (i : Int) : S38 := xs.getD i.toNat z38
theorem at_T38 {w : World} {A : Option Addr} {n : Nat} {xs : List S38} (h : Kd.C k38 w A n xs) (i : Int) (h0 : 0 ≤ i) (h1 : i < n) : ∃ ad A0 c0, A = some ad ∧ w.cell? (ad.add (i.toNat * 2)) = some (.slice A0 (rd_T38 xs i).f0.length c0) ∧ w.cell? ⟨(ad.add (i.toNat * 2)).block, (ad.add (i.toNat * 2)).off + 1, none⟩ = some (.int .i64 (rd_T38 xs i).f1) ∧ (rd_T38 xs i).f0.length ≤ c0 ∧ (Kd.int .i64).C w A0 (rd_T38 xs i).f0.length (rd_T38 xs i).f0 := by
  obtain ⟨ad, c, e, _, hK, hc0⟩ := Kd.C_get h z38 i h0 h1
  have hc : ∀ j u, c[j]? = some u → w.cell? (ad.add (i.toNat * 2 + j)) = some u := hc0
  obtain ⟨A0, c0, rfl, l0, g0⟩ := k38_open hK
  exact ⟨ad, A0, c0, e, hc 0 _ rfl, by rw [← add_field _ _ 1 (by omega)]; exact hc 1 _ rfl, l0, g0⟩


/-! #### num.Rat -/
structure S29 where
  f0 : Int
  f1 : Int
def z29 : S29 := ⟨(0 : Int), (0 : Int)⟩
def k29 : Kd S29 := Kd.iso (Kd.pair (Kd.int .i64) (Kd.int .i64)) (fun x : S29 => (x.f0, x.f1))
theorem k29_open {w : World} {x : S29} {cs : List Value} (h : k29.K w x cs) : cs = [.int .i64 x.f0, .int .i64 x.f1] := by
  obtain ⟨_, _, rfl, rfl, rfl⟩ := h
  rfl
/-- An element of a row of rats, of numbers, of rows. -/
theorem el_Q {W : World} {A : Option Addr} {l : List S29} (hC : Kd.C k29 W A l.length l) {j : Nat} (h : j < l.length) :
    ∃ ad, A = some ad ∧ W.cell? (ad.add (j * 2)) = some (.int .i64 l[j].f0) ∧ W.cell? ⟨(ad.add (j * 2)).block, (ad.add (j * 2)).off + 1, none⟩ = some (.int .i64 l[j].f1) := by
  obtain ⟨ad, c, e, _, hK, hc0⟩ := Kd.C_get hC z29 (j : Int) (by omega) (by omega)
  rw [Int.toNat_natCast] at hK hc0
  rw [show l.getD j z29 = l[j] by simp [List.getElem?_eq_getElem h]] at hK
  have hc : ∀ i u, c[i]? = some u → W.cell? (ad.add (j * 2 + i)) = some u := hc0
  have := k29_open hK
  subst this
  exact ⟨ad, e, hc 0 _ rfl, by rw [← add_field _ _ 1 (by omega)]; exact hc 1 _ rfl⟩
theorem el_I {W : World} {A : Option Addr} {l : List Int} (hC : (Kd.int .i64).C W A l.length l) {j : Nat} (h : j < l.length) :
    ∃ ad, A = some ad ∧ W.cell? (ad.add j) = some (.int .i64 l[j]) := by
  obtain ⟨ad, c, e, _, hK, hc0⟩ := Kd.C_get hC 0 (j : Int) (by omega) (by omega)
  rw [Int.toNat_natCast] at hK hc0
  rw [show l.getD j 0 = l[j] by simp [List.getElem?_eq_getElem h]] at hK
  have hc : ∀ i u, c[i]? = some u → W.cell? (ad.add (j * 1 + i)) = some u := hc0
  have : c = [.int .i64 l[j]] := hK
  subst this
  exact ⟨ad, e, by have := hc 0 _ rfl; rwa [Nat.mul_one, Nat.add_zero] at this⟩
theorem el_R {W : World} {A : Option Addr} {l : List S38} (hC : Kd.C k38 W A l.length l) {j : Nat} (h : j < l.length) :
    ∃ ad A' c', A = some ad ∧ W.cell? (ad.add (j * 2)) = some (.slice A' l[j].f0.length c') ∧ W.cell? ⟨(ad.add (j * 2)).block, (ad.add (j * 2)).off + 1, none⟩ = some (.int .i64 l[j].f1) ∧ l[j].f0.length ≤ c' ∧ (Kd.int .i64).C W A' l[j].f0.length l[j].f0 := by
  obtain ⟨ad, c, e, _, hK, hc0⟩ := Kd.C_get hC z38 (j : Int) (by omega) (by omega)
  rw [Int.toNat_natCast] at hK hc0
  rw [show l.getD j z38 = l[j] by simp [List.getElem?_eq_getElem h]] at hK
  have hc : ∀ i u, c[i]? = some u → W.cell? (ad.add (j * 2 + i)) = some u := hc0
  obtain ⟨A3, c3, rfl, l3, g3⟩ := k38_open hK
  exact ⟨ad, A3, c3, e, hc 0 _ rfl, by rw [← add_field _ _ 1 (by omega)]; exact hc 1 _ rfl, l3, g3⟩

end Go.Proofs.Ytdkbnbebioflaaa.Ln
