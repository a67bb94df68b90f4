import Derived.Test.YthckboogibhjaaaDoorProg
import Derived.Below
import Derived.Deep.Draws
import Derived.Deep.AppendLies
import Derived.Maps.AppendAt
import Derived.OwnWalk
import Derived.Laws.BytesArg
import Derived.Laws.MakeOwn
import Derived.Laws.OwnMore
import Derived.Deep.OwnRows
import Derived.Tactics
import Derived.Lib.ConvBytes
import Derived.Laws.Slices
import Derived.WalkKit
import Derived.KernelRfl
import Derived.RowKit3
import Derived.Deep.LoopGhost
import Derived.Deep.QuietTactic
import Derived.BigQuiet
import Derived.WideLaws
import Derived.Deep.DeepCutAuto
import Derived.Deep.CutBlock
import Derived.Deep.RegionHeld3
import Derived.Laws.Rows
import Derived.Lib.AppendStr
import Derived.ArgAppend
import Derived.Laws.IdiomCopy
import Derived.OrdersHeld
import Derived.Laws.BitsLemmas
import Derived.RowKit
import Derived.Test.YthckboogibhjaaaDoorWWords
import Derived.Test.YthckboogibhjaaaDoorWLast
import Derived.Test.YthckboogibhjaaaDoorWTab
import Derived.Test.YthckboogibhjaaaDoorWFour
import Derived.Test.YthckboogibhjaaaDoorWQPut
import Derived.Test.YthckboogibhjaaaDoorWApart
import Derived.Test.YthckboogibhjaaaDoorWArr
import Derived.Test.YthckboogibhjaaaDoorWZeros
import Derived.Test.YthckboogibhjaaaDoorWFoot
import Derived.Test.YthckboogibhjaaaDoorWKept
import Derived.Test.YthckboogibhjaaaDoorWShare
import Derived.Test.YthckboogibhjaaaDoorWN
import Derived.Test.YthckboogibhjaaaDoorWFootNe
import Derived.Test.YthckboogibhjaaaDoorWAt
import Derived.Test.YthckboogibhjaaaDoorWEqStruct
import Derived.Test.YthckboogibhjaaaDoorWRepsOne
import Derived.Test.YthckboogibhjaaaDoorWInv
import Derived.Test.YthckboogibhjaaaDoorWInvWords
import Derived.Test.YthckboogibhjaaaDoorWGuard
import Derived.Test.YthckboogibhjaaaDoorWNEv
import Derived.Test.YthckboogibhjaaaDoorWMore
import Derived.Test.YthckboogibhjaaaDoorChecked
import Derived.Defers
import Derived.Recover
import Derived.OneCell
import Derived.Lib.Hide
import Derived.RegionTactic
import Derived.StillTailTactics
import Derived.IntWalk
import Derived.Test.YthckboogibhjaaaDoorShelf
import Derived.Shelf.Strings.SlTrimAscii
import Derived.Lib.SlTrimSet
import Derived.Test.YthckboogibhjaaaDoorTk
import Derived.LoopTactic
section
/- The kind of a term (api.Term) in memory, as the printer of the kit writes it. -/
namespace Go.Proofs.YthckboogibhjaaaDoor.Trm
open Go.RowKit Go.Proofs.YthckboogibhjaaaDoorW.PrintWords Go.Proofs.YthckboogibhjaaaDoorW.PrintLast Go.Proofs.YthckboogibhjaaaDoorW.PrintMore
set_option linter.unusedVariables false
set_option linter.unusedSimpArgs false

structure S24 where
  f0 : Int
  f1 : ByteArray
  f2 : Int
  f3 : (List S24)
def z24 : S24 := ⟨(0 : Int), (⟨#[]⟩ : ByteArray), (0 : Int), ([] : List S24)⟩
def F24 (d : Kd S24) : Kd S24 := Kd.iso (Kd.pair (Kd.int .i64) (Kd.pair Kd.string (Kd.pair (Kd.int .i64) (Kd.slice 24 d)))) (fun x : S24 => (x.f0, x.f1, x.f2, x.f3))
theorem mono24 : Kd.Mono F24 := Kd.mono_iso _ (Kd.mono_pair (Kd.mono_const _) (Kd.mono_pair (Kd.mono_const _) (Kd.mono_pair (Kd.mono_const _) (Kd.mono_slice 24 Kd.mono_id))))
theorem sub24 : Kd.Sub F24 [24] := Kd.sub_iso _ (Kd.sub_pair (Kd.sub_const _ (by decide)) (Kd.sub_pair (Kd.sub_const _ (by decide)) (Kd.sub_pair (Kd.sub_const _ (by decide)) (Kd.sub_slice 24 (by decide) Kd.sub_id))))
theorem sz24 : ∀ n, (Kd.upto F24 4 [24] n).sz = 4 := Kd.upto_sz (fun _ => rfl)
def k24 : Kd S24 := Kd.fix F24 4 [24] sz24 (Kd.upto_E sub24)
theorem k24_heap : Kd.Heap k24 := Kd.heap_fix (fun _ h_ => Kd.heap_iso _ (Kd.heap_pair (Kd.heap_int .i64) (Kd.heap_pair Kd.heap_string (Kd.heap_pair (Kd.heap_int .i64) (Kd.heap_slice 24 h_)))))
theorem k24_open {w : World} {x : S24} {cs : List Value} (h : k24.K w x cs) : ∃ A3 c3, cs = [.int .i64 x.f0, .string x.f1, .int .i64 x.f2, .slice A3 x.f3.length c3] ∧ x.f3.length ≤ c3 ∧ k24.C w A3 x.f3.length x.f3 := by
  obtain ⟨n, h⟩ := h
  cases n with
  | zero => exact h.elim
  | succ n =>
    obtain ⟨_, _, rfl, rfl, ⟨_, _, rfl, rfl, ⟨_, _, rfl, rfl, ⟨A3, c3, rfl, l3, g3⟩⟩⟩⟩ := h
    exact ⟨A3, c3, rfl, l3, Kd.fix_C g3⟩
theorem k24_openM {w : World} {base : Nat} {ok : Nat → Prop} {x : S24} {cs : List Value} (h : k24.M w base ok x cs) : ∃ v3, cs = [.int .i64 x.f0, .string x.f1, .int .i64 x.f2, v3] ∧ k24.R 24 w base ok v3 x.f3 := by
  obtain ⟨n, h⟩ := h
  cases n with
  | zero => exact h.elim
  | succ n =>
    obtain ⟨_, _, rfl, rfl, ⟨_, _, rfl, rfl, ⟨_, _, rfl, rfl, ⟨v3, rfl, g3⟩⟩⟩⟩ := h
    exact ⟨v3, rfl, Kd.fix_R g3⟩
theorem k24_mk (w : World) (x : S24) {A3 : Option Addr} {c3 : Nat} (l3 : x.f3.length ≤ c3) (g3 : k24.C w A3 x.f3.length x.f3) : k24.K w x [.int .i64 x.f0, .string x.f1, .int .i64 x.f2, .slice A3 x.f3.length c3] := by
  obtain ⟨n3, q3⟩ := Kd.fix_C_back mono24 g3
  have r3 := Kd.upto_C_le mono24 sz24 (show n3 ≤ n3 by omega) q3
  exact ⟨n3 + 1, ⟨[.int .i64 x.f0], [.string x.f1, .int .i64 x.f2, .slice A3 x.f3.length c3], rfl, rfl, ⟨[.string x.f1], [.int .i64 x.f2, .slice A3 x.f3.length c3], rfl, rfl, ⟨[.int .i64 x.f2], [.slice A3 x.f3.length c3], rfl, rfl, ⟨A3, c3, rfl, l3, r3⟩⟩⟩⟩⟩
theorem k24_mkM (w : World) (base : Nat) (ok : Nat → Prop) (x : S24) {v3 : Value} (g3 : k24.R 24 w base ok v3 x.f3) : k24.M w base ok x [.int .i64 x.f0, .string x.f1, .int .i64 x.f2, v3] := by
  obtain ⟨n3, q3⟩ := Kd.fix_R_back mono24 g3
  have r3 := Kd.upto_R_le mono24 sz24 (show n3 ≤ n3 by omega) q3
  exact ⟨n3 + 1, ⟨[.int .i64 x.f0], [.string x.f1, .int .i64 x.f2, v3], rfl, rfl, ⟨[.string x.f1], [.int .i64 x.f2, v3], rfl, rfl, ⟨[.int .i64 x.f2], [v3], rfl, rfl, ⟨v3, rfl, r3⟩⟩⟩⟩⟩
theorem k24_openF {W : World} {ok : Nat → Prop} {x : S24} {cs : List Value} (h : Kd.FK k24 W ok x cs) : ∃ A3 c3, cs = [.int .i64 x.f0, .string x.f1, .int .i64 x.f2, .slice A3 x.f3.length c3] ∧ x.f3.length ≤ c3 ∧ Kd.F k24 W ok A3 x.f3.length x.f3 := by
  obtain ⟨A3, c3, rfl, l3, _⟩ := k24_open (Kd.FK_now h)
  exact ⟨A3, c3, rfl, l3, (fun W' hW => by obtain ⟨A3_, c3_, he, l3_, g3_⟩ := k24_open (h W' hW); injection (Option.some.inj (show some (Value.slice A3 x.f3.length c3) = some (Value.slice A3_ x.f3.length c3_) from congrArg (fun l => l[3]?) he)) with ha_ _ _; rw [ha_]; exact g3_)⟩
theorem k24_mkF (W : World) (ok : Nat → Prop) (x : S24) {A3 : Option Addr} {c3 : Nat} (l3 : x.f3.length ≤ c3) (g3 : Kd.F k24 W ok A3 x.f3.length x.f3) : Kd.FK k24 W ok x [.int .i64 x.f0, .string x.f1, .int .i64 x.f2, .slice A3 x.f3.length c3] := fun W2 hW => k24_mk W2 x l3 (g3 W2 hW)
def rd_T24 (xs : List S24) (i : Int) : S24 := xs.getD i.toNat z24
theorem at_T24 {w : World} {A : Option Addr} {n : Nat} {xs : List S24} (h : Kd.C k24 w A n xs) (i : Int) (h0 : 0 ≤ i) (h1 : i < n) : ∃ ad A3 c3, A = some ad ∧ w.cell? (ad.add (i.toNat * 4)) = some (.int .i64 (rd_T24 xs i).f0) ∧ w.cell? ⟨(ad.add (i.toNat * 4)).block, (ad.add (i.toNat * 4)).off + 1, none⟩ = some (.string (rd_T24 xs i).f1) ∧ w.cell? ⟨(ad.add (i.toNat * 4)).block, (ad.add (i.toNat * 4)).off + 2, none⟩ = some (.int .i64 (rd_T24 xs i).f2) ∧ w.cell? ⟨(ad.add (i.toNat * 4)).block, (ad.add (i.toNat * 4)).off + 3, none⟩ = some (.slice A3 (rd_T24 xs i).f3.length c3) ∧ (rd_T24 xs i).f3.length ≤ c3 ∧ k24.C w A3 (rd_T24 xs i).f3.length (rd_T24 xs i).f3 := by
  obtain ⟨ad, c, e, _, hK, hc0⟩ := Kd.C_get h z24 i h0 h1
  have hc : ∀ j u, c[j]? = some u → w.cell? (ad.add (i.toNat * 4 + j)) = some u := hc0
  obtain ⟨A3, c3, rfl, l3, g3⟩ := k24_open hK
  exact ⟨ad, A3, c3, e, hc 0 _ rfl, by rw [← add_field _ _ 1 (by omega)]; exact hc 1 _ rfl, by rw [← add_field _ _ 2 (by omega)]; exact hc 2 _ rfl, by rw [← add_field _ _ 3 (by omega)]; exact hc 3 _ rfl, l3, g3⟩

end Go.Proofs.YthckboogibhjaaaDoor.Trm
end

section
/- Plain: terms; how large and how deep they are, as Go's measure tells it. -/
namespace Go.Proofs.YthckboogibhjaaaDoor.Trm
set_option linter.unusedVariables false
set_option linter.unusedSimpArgs false
open Go.RowKit Go.Proofs.YthckboogibhjaaaDoorW.PrintWords

mutual
/-- How many terms it is made of. -/
def tsize : S24 → Nat
  | ⟨_, _, _, l⟩ => 1 + lsize l
def lsize : List S24 → Nat
  | [] => 0
  | x :: l => tsize x + lsize l
end
mutual
/-- How deep it goes. -/
def tdeep : S24 → Nat
  | ⟨_, _, _, l⟩ => 1 + ldeep l
def ldeep : List S24 → Nat
  | [] => 0
  | x :: l => max (tdeep x) (ldeep l)
end
mutual
/-- measure.of: size and depth, no farther than it must. -/
def ofT : S24 → Nat → Nat × Nat → Nat × Nat
  | ⟨_, _, _, l⟩, d, st => ofL l d (st.1 + 1, max st.2 d)
def ofL : List S24 → Nat → Nat × Nat → Nat × Nat
  | [], _, st => st
  | x :: l, d, st => if 2000 < st.1 ∨ 100 < d then st else ofL l d (ofT x (d + 1) st)
end

theorem tsize_mk (t : S24) : tsize t = 1 + lsize t.f3 := by cases t; rw [tsize]
theorem tdeep_mk (t : S24) : tdeep t = 1 + ldeep t.f3 := by cases t; rw [tdeep]
theorem ofT_mk (t : S24) (d : Nat) (st : Nat × Nat) : ofT t d st = ofL t.f3 d (st.1 + 1, max st.2 d) := by cases t; rw [ofT]
theorem lsize_mem {x : S24} : ∀ {l : List S24}, x ∈ l → tsize x ≤ lsize l
  | y :: l, h => by
    rw [lsize]
    cases h with
    | head => omega
    | tail _ h => have := lsize_mem h; omega

mutual
theorem ofT_le : ∀ (t : S24) (d : Nat) (st : Nat × Nat), st.1 ≤ 2000 → st.2 ≤ 101 → d ≤ 101 → (ofT t d st).1 ≤ 2001 ∧ (ofT t d st).2 ≤ 101 ∧ st.1 + 1 ≤ (ofT t d st).1
  | ⟨_, _, _, l⟩, d, st, h1, h2, h3 => by
    rw [ofT]
    have := ofL_le l d (st.1 + 1, max st.2 d) (by show st.1 + 1 ≤ 2001; omega) (by show max st.2 d ≤ 101; omega) h3
    refine ⟨this.1, this.2.1, ?_⟩
    exact this.2.2
theorem ofL_le : ∀ (l : List S24) (d : Nat) (st : Nat × Nat), st.1 ≤ 2001 → st.2 ≤ 101 → d ≤ 101 → (ofL l d st).1 ≤ 2001 ∧ (ofL l d st).2 ≤ 101 ∧ st.1 ≤ (ofL l d st).1
  | [], d, st, h1, h2, h3 => by rw [ofL]; exact ⟨h1, h2, Nat.le_refl _⟩
  | x :: l, d, st, h1, h2, h3 => by
    rw [ofL]
    by_cases hc : 2000 < st.1 ∨ 100 < d
    · rw [if_pos hc]; exact ⟨h1, h2, Nat.le_refl _⟩
    · rw [if_neg hc]
      have a := ofT_le x (d + 1) st (by omega) h2 (by omega)
      have b := ofL_le l d _ a.1 a.2.1 h3
      exact ⟨b.1, b.2.1, by omega⟩
end
end Go.Proofs.YthckboogibhjaaaDoor.Trm
end

section
/- term.measure.of: how large and how deep a term is. -/
namespace Go.Proofs.YthckboogibhjaaaDoor.Trm
set_option linter.unusedVariables false
set_option linter.unusedSimpArgs false
open Go.RowKit Go.Proofs.YthckboogibhjaaaDoorW.PrintWords Go.Proofs.YthckboogibhjaaaDoorW.PrintMore

theorem bdrewN {B : Nat} {a w : World} (h : Below B a w) (n : Nat) : Below B a (w.drewN n) := ⟨h.os, h.tape, h.output, h.size, h.block⟩

theorem wp_world {P : Program} {c : Code} {Q : Exit → Act → World → Prop} {a : Act} (R : World → Prop) {w0 : World} (h : R w0) (H : ∀ wx, R wx → Code.wp P c Q a wx) : Code.wp P c Q a w0 := H _ h

/-- What was there reads as before. -/
theorem bgrow {W w1 : World} (hb : Below W.heap.size W w1) : (∀ b o, b < W.heap.size → w1.cell? ⟨b, o, none⟩ = W.cell? ⟨b, o, none⟩) ∧ (∀ b o, b < W.heap.size → w1.frozen? ⟨b, o, none⟩ = W.frozen? ⟨b, o, none⟩) ∧ (∀ b, b < W.heap.size → b < w1.heap.size) :=
  ⟨fun b o h => hb.cell (p := ⟨b, o, none⟩) h, fun b o h => hb.frozen (p := ⟨b, o, none⟩) h, fun b h => Nat.lt_of_lt_of_le h hb.size⟩

theorem kcell {W w1 : World} (hb : Below W.heap.size W w1) {p : Addr} {v : Value} (h : W.cell? p = some v) : w1.cell? p = some v := (hb.cell (World.block_lt_of_cell? W _ h)).trans h

/-- All blocks but one are as they were. -/
structure Mv (g : Nat) (w w' : World) : Prop where
  os : w'.os = w.os
  tape : w'.tape = w.tape
  output : w'.output = w.output
  size : w.heap.size ≤ w'.heap.size
  block : ∀ k, k < w.heap.size → k ≠ g → w'.heap[k]? = w.heap[k]?
theorem Mv.refl (g : Nat) (w : World) : Mv g w w := ⟨rfl, rfl, rfl, Nat.le_refl _, fun _ _ _ => rfl⟩
theorem Mv.trans {g : Nat} {a b c : World} (h : Mv g a b) (k : Mv g b c) : Mv g a c :=
  ⟨k.os.trans h.os, k.tape.trans h.tape, k.output.trans h.output, Nat.le_trans h.size k.size, fun i hi hg => (k.block i (Nat.lt_of_lt_of_le hi h.size) hg).trans (h.block i hi hg)⟩
theorem Mv.alloc {g : Nat} {a w : World} (h : Mv g a w) (o : Obj) : Mv g a (w.alloc o) :=
  h.trans ⟨rfl, rfl, rfl, by simp, fun k hk _ => Below.heap_alloc _ _ _ hk⟩
theorem Mv.drew {g : Nat} {a w : World} (h : Mv g a w) : Mv g a w.drew := ⟨h.os, h.tape, h.output, h.size, h.block⟩
theorem Mv.drewN {g : Nat} {a w : World} (h : Mv g a w) (n : Nat) : Mv g a (w.drewN n) := ⟨h.os, h.tape, h.output, h.size, h.block⟩
theorem Mv.set {g : Nat} {a w : World} (h : Mv g a w) (o : Nat) (u : Value) : Mv g a (w.setCell ⟨g, o, none⟩ u) :=
  h.trans ⟨rfl, rfl, rfl, by simp [World.setCell], fun k hk hg => Below.heap_setCell _ _ _ _ hg⟩
theorem Mv.setNew {g : Nat} {a w : World} (h : Mv g a w) {b : Nat} (hb : a.heap.size ≤ b) (o : Nat) (u : Value) : Mv g a (w.setCell ⟨b, o, none⟩ u) :=
  ⟨h.os, h.tape, h.output, by simp [World.setCell]; exact h.size, fun k hk hg => (Below.heap_setCell _ _ _ _ (by show k ≠ b; omega)).trans (h.block k hk hg)⟩
theorem Mv.below {g B : Nat} {w0 a w : World} (h : Mv g a w) (hb : Below B w0 a) (hB : B ≤ a.heap.size) (hg : B ≤ g) : Below B w0 w :=
  hb.trans ⟨h.os, h.tape, h.output, h.size, fun k hk => h.block k (by omega) (by omega)⟩
theorem Mv.cell {g : Nat} {a w : World} (h : Mv g a w) {b o : Nat} (hb : b < a.heap.size) (hg : b ≠ g) : w.cell? ⟨b, o, none⟩ = a.cell? ⟨b, o, none⟩ :=
  World.cell?_of_block (w := a) (h.block b hb hg)
theorem Mv.frozen {g : Nat} {a w : World} (h : Mv g a w) {b o : Nat} (hb : b < a.heap.size) (hg : b ≠ g) : w.frozen? ⟨b, o, none⟩ = a.frozen? ⟨b, o, none⟩ :=
  World.frozen?_of_block (w := a) (h.block b hb hg)

/-- The state of a measure. -/
structure Meas (w : World) (g : Nat) (st : Nat × Nat) : Prop where
  s : w.cell? ⟨g, 0, none⟩ = some (.int .i64 st.1)
  d : w.cell? ⟨g, 1, none⟩ = some (.int .i64 st.2)
  fs : w.frozen? ⟨g, 0, none⟩ = false
  fd : w.frozen? ⟨g, 1, none⟩ = false

theorem meas_size {w wr w5 : World} {o : Obj} (h : (wr.alloc o).heap.size ≤ w5.heap.size) (k : w.heap.size < wr.heap.size) : w.heap.size < w5.heap.size := by
  simp at h; omega

attribute [local go_sem] max2_int in
set_option maxHeartbeats 4000000 in
set_option maxRecDepth 100000 in
theorem of_any : ∀ (n : Nat) (t : S24), tsize t ≤ n → ∀ (A : Option Addr) (c : Nat) (d : Nat) (st : Nat × Nat) (g : Nat) (w0 w : World),
    Kd.C k24 w0 A t.f3.length t.f3 → t.f3.length ≤ c → Below w0.heap.size w0 w → w0.heap.size ≤ g → g < w.heap.size → Meas w g st → st.1 ≤ 2000 → st.2 ≤ 101 → d ≤ 101 →
    Calls Tryd.prog 37 #[.pointer (some ⟨g, 0, none⟩), .agg #[.int .i64 t.f0, .string t.f1, .int .i64 t.f2, .slice A t.f3.length c], .int .i64 d] w fun e w' => e = .returned (.tuple #[]) ∧ Mv g w w' ∧ Meas w' g (ofT t d st) := by
  intro n
  induction n with
  | zero => intro t ht; rw [tsize_mk] at ht; omega
  | succ n ih =>
    intro t ht A c d st g w0 w hC hc hB h0 hg hM h1 h2 h3
    obtain ⟨m1, m2, m3, m4⟩ := hM
    have HC := Lib.hid hC
    have HB := Lib.hid hB
    have HG := Lib.hid h0
    clear hC hB h0
    go_enter Tryd.func37, Tryd.ntmps37
    go_wp2
    all_goals
      go_loopw [27] (fun i wr => ∃ (j : Nat) (sj : Nat × Nat), j ≤ t.f3.length ∧ i = .int .i64 j ∧ j ≤ sj.1 ∧ ofL (t.f3.drop j) d sj = ofT t d st ∧ sj.1 ≤ 2001 ∧ sj.2 ≤ 101 ∧ Mv g w wr ∧ Meas wr g sj ∧ w.heap.size < wr.heap.size) (fun i _ => t.f3.length - (intOf i).toNat)
      case atStart =>
        refine ⟨0, (st.1 + 1, max st.2 d), Nat.zero_le _, rfl, Nat.zero_le _, by rw [List.drop_zero, ofT_mk], by show st.1 + 1 ≤ 2001; omega, by show max st.2 d ≤ 101; omega, ?_, ?_, by simp [World.setCell]⟩
        · exact (((Mv.refl g w).set 0 _).set 1 _).alloc _
        · have hne : g ≠ w.heap.size := by omega
          constructor
          · simp [go_sem, m1, m2, hg]
          · simp [go_sem, m1, m2, hg]; omega
          · simp [go_sem, m3, m4, hg]
          · simp [go_sem, m3, m4, hg]
      case round =>
        obtain ⟨j, sj, hj, rfl, hjs, hL, s1, s2, hMv, ⟨q1, q2, q3, q4⟩, hsz⟩ := hrel
        have hgr : g < wr.heap.size := by omega
        by_cases hjl : j < t.f3.length
        · obtain ⟨ad, A', c', e, x0, x1, x2, x3, l', C'⟩ := at_T24 HC.out (j : Int) (by omega) (by omega)
          have hbr := hMv.below HB.out HB.out.size HG.out
          have hd : t.f3.drop j = rd_T24 t.f3 (j : Int) :: t.f3.drop (j + 1) := by
            rw [List.drop_eq_getElem_cons hjl]; simp [rd_T24, List.getElem?_eq_getElem hjl]
          have hmem : rd_T24 t.f3 (j : Int) ∈ t.f3 := by
            have : rd_T24 t.f3 (j : Int) = t.f3[j] := by simp [rd_T24, List.getElem?_eq_getElem hjl]
            rw [this]; exact List.getElem_mem hjl
          have hts := lsize_mem hmem
          rw [tsize_mk] at ht
          rw [hd, ofL] at hL
          generalize rd_T24 t.f3 (j : Int) = x at *
          have z0 := World.block_lt_of_cell? w0 _ x0
          replace x0 := (hbr.cell (World.block_lt_of_cell? w0 _ x0)).trans x0
          replace x1 := (hbr.cell (World.block_lt_of_cell? w0 _ x1)).trans x1
          replace x2 := (hbr.cell (World.block_lt_of_cell? w0 _ x2)).trans x2
          replace x3 := (hbr.cell (World.block_lt_of_cell? w0 _ x3)).trans x3
          rw [Int.toNat_natCast] at x0 x1 x2 x3
          subst e
          have HL := Lib.hid hL
          have HM := Lib.hid hMv
          have HBr := Lib.hid hbr
          have HCx := Lib.hid C'
          have HE := Lib.hid hd
          clear hL hMv hbr C' hd
          have e1 : ((d + 1 : Nat) : Int) = (d : Int) + 1 := by omega
          have IH : ∀ W : World, Below w0.heap.size w0 W → g < W.heap.size → Meas W g sj → sj.1 ≤ 2000 → d ≤ 100 → Calls Tryd.prog 37 #[.pointer (some ⟨g, 0, none⟩), .agg #[.int .i64 x.f0, .string x.f1, .int .i64 x.f2, .slice A' x.f3.length c'], .int .i64 ((d : Int) + 1)] W fun e w' => e = .returned (.tuple #[]) ∧ Mv g W w' ∧ Meas w' g (ofT x (d + 1) sj) := by
            intro W b1 b2 b3 b4 b5
            have := ih x (by omega) A' c' (d + 1) sj g w0 W HCx.out l' b1 HG.out b2 b3 b4 s2 (by omega)
            rwa [e1] at this
          have HIH := Lib.hid IH
          clear IH ih
          by_cases hc2 : 2000 < sj.1 ∨ 100 < d
          · have hL2 := HL.out
            rw [if_pos hc2] at hL2
            have HL2 := Lib.hid hL2
            clear hL2 HL
            go_wp2
            all_goals (try (exfalso; omega))
            all_goals
              refine bodyPost_ret (v := .tuple #[]) (by simp [results, Tryd.results37, go_sem]) rfl ⟨rfl, HM.out.alloc _, ?_⟩
              rw [← HL2.out]
              exact ⟨by simp [go_sem, q1, hgr], by simp [go_sem, q2, hgr], by simp [go_sem, q3, hgr], by simp [go_sem, q4, hgr]⟩
          · have hL2 := HL.out
            rw [if_neg hc2] at hL2
            have HL2 := Lib.hid hL2
            have hof := ofT_le x (d + 1) sj (by omega) s2 (by omega)
            clear hL2 HL
            go_wp2_with (go_at_call 37; refine (HIH.out _ ?b1 ?b2 ?b3 (by omega) (by omega)).mono ?_; (case b1 => exact HBr.out.alloc (Nat.le_trans HB.out.size (by omega)) _); (case b2 => simp; omega); (case b3 => exact ⟨by simp [go_sem, q1, hgr], by simp [go_sem, q2, hgr], by simp [go_sem, q3, hgr], by simp [go_sem, q4, hgr]⟩); rintro e w5 ⟨rfl, hv, hm⟩; have HV := Lib.hid ((HM.out.alloc _).trans hv); have HS := Lib.hid hv.size; have HMM := Lib.hid hm; clear hv hm)
            all_goals (try (exfalso; omega))
            have kj : (j : Int) + 1 = ((j + 1 : Nat) : Int) := rfl
            refine ⟨⟨j + 1, ofT x (d + 1) sj, hjl, by rw [kj], Nat.le_trans (Nat.succ_le_succ hjs) hof.2.2, HL2.out, hof.1, hof.2.1, HV.out, HMM.out, meas_size HS.out hsz⟩, ?_⟩
            rw [kj]; simp only [intOf, Int.toNat_natCast]; exact Nat.sub_lt_sub_left hjl (Nat.lt_succ_self _)
        · have hjj : j = t.f3.length := by omega
          subst hjj
          rw [List.drop_length, ofL] at hL
          go_wp2
          refine bodyPost_end (v := .tuple #[]) (by simp [results, Tryd.results37, go_sem]) rfl ⟨rfl, hMv, ?_⟩
          rw [← hL]
          exact ⟨q1, q2, q3, q4⟩
end Go.Proofs.YthckboogibhjaaaDoor.Trm
end

section
/- term.Name: whether a text is a name. -/
namespace Go.Proofs.YthckboogibhjaaaDoor.Trm
set_option linter.unusedVariables false
set_option linter.unusedSimpArgs false
open Go.RowKit Go.Proofs.YthckboogibhjaaaDoorW.PrintWords Go.Proofs.YthckboogibhjaaaDoorW.PrintMore

def letters : List UInt8 := [65, 66, 67, 68, 69, 70, 71, 72, 73, 74, 75, 76, 77, 78, 79, 80, 81, 82, 83, 84, 85, 86, 87, 88, 89, 90, 97, 98, 99, 100, 101, 102, 103, 104, 105, 106, 107, 108, 109, 110, 111, 112, 113, 114, 115, 116, 117, 118, 119, 120, 121, 122]
def inName : List UInt8 := letters ++ [48, 49, 50, 51, 52, 53, 54, 55, 56, 57, 95]

/-- A text is a name. -/
def nameB (s : ByteArray) : Bool := match s.data.toList with
  | [] => false
  | c :: l => decide (l.length + 1 ≤ 16) && letters.contains c && (c :: l).all (inName.contains ·)

theorem indexByte_ge (l : List UInt8) (c : UInt8) : decide (Lib.indexByte l c ≥ 0) = l.contains c ∧ (Lib.indexByte l c = -1 ∨ 0 ≤ Lib.indexByte l c) := by
  induction l with
  | nil => simp [Lib.indexByte]
  | cons b l ih =>
    obtain ⟨h1, h2⟩ := ih
    rw [Lib.indexByte]
    by_cases hb : b = c
    · subst hb; simp
    · have hbc : (b == c) = false := beq_eq_false_iff_ne.2 hb
      have hcb : (c == b) = false := beq_eq_false_iff_ne.2 (Ne.symm hb)
      rw [hbc, List.contains_cons, hcb, Bool.false_or, ← h1]
      rcases h2 with h2 | h2
      · rw [h2]; simp
      · have : (Lib.indexByte l c == -1) = false := beq_eq_false_iff_ne.2 (by omega)
        rw [this]
        simp only [Bool.false_eq_true, if_false]
        refine ⟨?_, by omega⟩
        have a : Lib.indexByte l c + 1 ≥ 0 := by omega
        have b : Lib.indexByte l c ≥ 0 := h2
        rw [decide_eq_true a, decide_eq_true b]

theorem dropWhile_nil (p : UInt8 → Bool) (l : List UInt8) : l.dropWhile p = [] ↔ l.all p = true := by
  induction l with
  | nil => simp
  | cons a l ih =>
    rw [List.dropWhile_cons]
    by_cases h : p a = true
    · rw [if_pos h, ih]; simp [h]
    · rw [if_neg h]; simp [h]

theorem all_takeWhile (p : UInt8 → Bool) (l : List UInt8) : (l.takeWhile p).all p = true := by
  induction l with
  | nil => rfl
  | cons a l ih =>
    rw [List.takeWhile_cons]
    by_cases h : p a = true
    · rw [if_pos h, List.all_cons, h, ih]; rfl
    · rw [if_neg h]; rfl

theorem trimS_nil (l cs : List UInt8) : Lib.trimS l cs = [] ↔ l.all (cs.contains ·) = true := by
  unfold Lib.trimS Lib.trimLeftS
  rw [dropWhile_nil]
  unfold Lib.trimRightS
  constructor
  · intro h
    have h2 := List.takeWhile_append_dropWhile (p := (cs.contains ·)) (l := l.reverse)
    have h3 : l.reverse.all (cs.contains ·) = true := by
      rw [← h2, List.all_append, Bool.and_eq_true]
      refine ⟨?_, by rwa [List.all_reverse] at h⟩
      exact all_takeWhile _ _
    rwa [List.all_reverse] at h3
  · intro h
    rw [List.all_reverse]
    have h3 : l.reverse.all (cs.contains ·) = true := by rwa [List.all_reverse]
    rw [(dropWhile_nil _ _).2 h3]; rfl

theorem lettersA : (⟨#[65, 66, 67, 68, 69, 70, 71, 72, 73, 74, 75, 76, 77, 78, 79, 80, 81, 82, 83, 84, 85, 86, 87, 88, 89, 90, 97, 98, 99, 100, 101, 102, 103, 104, 105, 106, 107, 108, 109, 110, 111, 112, 113, 114, 115, 116, 117, 118, 119, 120, 121, 122]⟩ : ByteArray).data.toList = letters := rfl
theorem inNameA : (⟨#[65, 66, 67, 68, 69, 70, 71, 72, 73, 74, 75, 76, 77, 78, 79, 80, 81, 82, 83, 84, 85, 86, 87, 88, 89, 90, 97, 98, 99, 100, 101, 102, 103, 104, 105, 106, 107, 108, 109, 110, 111, 112, 113, 114, 115, 116, 117, 118, 119, 120, 121, 122, 48, 49, 50, 51, 52, 53, 54, 55, 56, 57, 95]⟩ : ByteArray).data.toList = inName := rfl

theorem len_data (s : ByteArray) : s.data.toList.length = s.size := by rw [Array.length_toList]; rfl
theorem nameB_nil {s : ByteArray} (h : s.toList = []) : nameB s = false := by
  rw [Lib.toList_data] at h; unfold nameB; rw [h]
theorem nameB_pos {s : ByteArray} (h : 0 < s.size) : nameB s = (decide (s.size ≤ 16) && letters.contains (s[0]'h) && s.data.toList.all (inName.contains ·)) := by
  have hl := len_data s
  have h0 : s[0]'h = s.data.toList[0]'(by omega) := by simp [ByteArray.getElem_eq_getElem_data]
  rw [h0]
  unfold nameB
  split
  · rename_i e; simp [e] at hl; omega
  · rename_i c l e
    have : s.size = l.length + 1 := by rw [← hl, e]; rfl
    simp only [e, this, List.getElem_cons_zero]

set_option maxHeartbeats 4000000 in
set_option maxRecDepth 100000 in
theorem Name_any (s : ByteArray) (w : World) :
    Calls Tryd.prog 51 #[.string s] w fun e w' => e = .returned (.bool (nameB s)) ∧ Below w.heap.size w w' := by
  have hI : ∀ (c : Int) (W : World), Calls Tryd.prog 55 #[.string ⟨#[65, 66, 67, 68, 69, 70, 71, 72, 73, 74, 75, 76, 77, 78, 79, 80, 81, 82, 83, 84, 85, 86, 87, 88, 89, 90, 97, 98, 99, 100, 101, 102, 103, 104, 105, 106, 107, 108, 109, 110, 111, 112, 113, 114, 115, 116, 117, 118, 119, 120, 121, 122]⟩, .int .u8 c] W fun e w' => e = .returned (.int .i64 (Lib.indexByte letters c.toNat.toUInt8)) ∧ w' = W := fun c W => Tryd.strings_IndexByte _ c W
  have hT : ∀ (W : World), s.size ≤ 16 → Calls Tryd.prog 56 #[.string s, .string ⟨#[65, 66, 67, 68, 69, 70, 71, 72, 73, 74, 75, 76, 77, 78, 79, 80, 81, 82, 83, 84, 85, 86, 87, 88, 89, 90, 97, 98, 99, 100, 101, 102, 103, 104, 105, 106, 107, 108, 109, 110, 111, 112, 113, 114, 115, 116, 117, 118, 119, 120, 121, 122, 48, 49, 50, 51, 52, 53, 54, 55, 56, 57, 95]⟩] W fun e w' => e = .returned (.string ⟨(Lib.trimS s.data.toList inName).toArray⟩) ∧ Below W.heap.size W w' :=
    fun W h => Any.strings_Trim_laid Tryd.lays160 (by kernel_rfl) s _ W (by omega) (by decide) (ascii_of_all (by decide))
  have HI := Lib.hid hI
  have HT := Lib.hid hT
  clear hI hT
  go_enter Tryd.func51, Tryd.ntmps51
  by_cases hn : s.size = 0
  · have hs0 : s.toList = [] := by rw [Lib.toList_data]; exact List.length_eq_zero_iff.1 (by rw [len_data]; exact hn)
    go_wp2
    exact bodyPost_ret (v := .bool false) (by simp [results, Tryd.results51, go_sem]) rfl ⟨by rw [nameB_nil hs0], Below.refl _ _⟩
  · have h1 : 0 < s.size := by omega
    have hN := nameB_pos h1
    have HN := Lib.hid hN
    clear hN
    go_wp2_with (first | (go_at_call 55; refine (HI.out _ _).mono ?_; rintro e w1 ⟨rfl, rfl⟩) | (go_at_call 56; refine (HT.out _ (by omega)).mono ?_; rintro e w1 ⟨rfl, hb1⟩))
    · rename_i hs0
      exact bodyPost_ret (v := .bool false) (by simp [results, Tryd.results51, go_sem]) rfl ⟨by rw [nameB_nil hs0], Below.refl _ _⟩
    · rename_i hs1 hs2 w2 hi
      have h2 := (indexByte_ge letters (s[0]'h1)).1
      rw [decide_eq_true (show Lib.indexByte letters (s[0]'h1) ≥ 0 from hi)] at h2
      have h3 := trimS_nil s.data.toList inName
      have h4 : (!s.toList.isEmpty && (Lib.trimS s.data.toList inName).isEmpty) = s.data.toList.all (inName.contains ·) := by
        have e1 : s.toList.isEmpty = false := by rw [List.isEmpty_eq_false_iff]; exact hs1
        rw [e1, Bool.not_false, Bool.true_and, Bool.eq_iff_iff, List.isEmpty_iff]; exact h3
      refine bodyPost_ret (v := .bool (!s.toList.isEmpty && (Lib.trimS s.data.toList inName).isEmpty)) (by simp [results, Tryd.results51, go_sem]) rfl ⟨?_, hb1⟩
      rw [h4, HN.out, ← h2, decide_eq_true (show s.size ≤ 16 by omega)]; rfl
    · rename_i hs1 hs2 hi
      have h2 := (indexByte_ge letters (s[0]'h1)).1
      rw [decide_eq_false (show ¬ Lib.indexByte letters (s[0]'h1) ≥ 0 by omega)] at h2
      exact bodyPost_ret (v := .bool false) (by simp [results, Tryd.results51, go_sem]) rfl ⟨by rw [HN.out, ← h2]; simp, Below.refl _ _⟩
    · rename_i hs1 hs2
      exact bodyPost_ret (v := .bool false) (by simp [results, Tryd.results51, go_sem]) rfl ⟨by rw [HN.out, decide_eq_false (show ¬ s.size ≤ 16 by omega)]; simp, Below.refl _ _⟩
end Go.Proofs.YthckboogibhjaaaDoor.Trm
end

section
/- Plain: the table of operations, and whether a term is right but for its size. -/
namespace Go.Proofs.YthckboogibhjaaaDoor.Trm
set_option linter.unusedVariables false
set_option linter.unusedSimpArgs false
open Go.RowKit Go.Proofs.YthckboogibhjaaaDoorW.PrintWords Go.Proofs.YthckboogibhjaaaDoorW.PrintMore

theorem wrapj {j : Nat} (h : j + 1 < 9223372036854775808) : wrap64 ((j : Int) + 1) = ((j + 1 : Nat) : Int) := by unfold wrap64; omega

/-- An operation's sort, and what it has. -/
structure Shp where
  sort : Int
  name : Bool
  number : Bool
  a : List Int
  many : Bool

def shps : List Shp := [⟨0, false, false, [], false⟩,
  ⟨1, false, true, [], false⟩, ⟨1, true, false, [], false⟩, ⟨1, false, false, [2], false⟩, ⟨1, false, false, [1, 1], false⟩, ⟨1, false, false, [1, 1], false⟩, ⟨1, false, true, [1], false⟩,
  ⟨2, true, false, [], false⟩, ⟨2, false, false, [], false⟩, ⟨2, false, false, [], false⟩, ⟨2, false, false, [3], false⟩, ⟨2, false, false, [2, 2], false⟩, ⟨2, false, false, [2, 2], false⟩, ⟨2, false, false, [2, 2], false⟩,
  ⟨3, true, false, [], false⟩, ⟨4, true, false, [], false⟩, ⟨4, false, false, [], false⟩, ⟨4, false, false, [], false⟩, ⟨4, false, false, [4], false⟩, ⟨4, false, false, [4], true⟩, ⟨4, false, false, [4], true⟩, ⟨4, false, false, [4, 4], false⟩,
  ⟨4, false, false, [1, 1], false⟩, ⟨4, false, false, [1, 1], false⟩, ⟨4, false, false, [1, 1], false⟩, ⟨4, false, false, [3, 2], false⟩, ⟨4, false, false, [2, 2], false⟩, ⟨4, false, false, [2, 2], false⟩, ⟨4, false, false, [3, 3], false⟩]
def shp (i : Nat) : Shp := shps.getD i ⟨0, false, false, [], false⟩

theorem shps_many : ∀ s ∈ shps, s.many = true → s.a = [4] := by decide
theorem shp_mem {i : Nat} (h : i < 29) : shp i ∈ shps := by
  have : shp i = shps[i]'h := by unfold shp; rw [List.getD_eq_getElem?_getD, List.getElem?_eq_getElem (show i < shps.length from h)]; rfl
  rw [this]; exact List.getElem_mem _
theorem shp_many {i : Nat} (h : i < 29) (hm : (shp i).many = true) : (shp i).a = [4] := shps_many _ (shp_mem h) hm
theorem shps_len : ∀ s ∈ shps, s.a.length ≤ 2 := by decide
theorem shp_len {i : Nat} (h : i < 29) : (shp i).a.length ≤ 2 := shps_len _ (shp_mem h)

/-- What a term has of its own is as its operation wants it. -/
def okHead (s : Shp) (nm : ByteArray) (n : Int) (len : Nat) (want : Int) : Bool :=
  !(decide (want ≠ 0) && decide (s.sort ≠ want) || s.name && !nameB nm || !s.name && !nm.toList.isEmpty || !s.number && decide (n ≠ 0) || !s.many && ((len : Int) != (s.a.length : Int)))

theorem ok_len {s : Shp} {nm : ByteArray} {n : Int} {len : Nat} {want : Int} (h : okHead s nm n len want = true) (hm : s.many = false) : len = s.a.length := by
  unfold okHead at h
  simp only [hm, Bool.not_false, Bool.true_and, Bool.not_eq_true', Bool.or_eq_false_iff, bne_eq_false_iff_eq] at h
  omega

mutual
/-- term.right. -/
def rightT : S24 → Int → Bool
  | ⟨op, nm, n, l⟩, want => if op < 1 ∨ 28 < op then false else okHead (shp op.toNat) nm n l.length want && rightL l (shp op.toNat) 0
def rightL : List S24 → Shp → Nat → Bool
  | [], _, _ => true
  | x :: l, s, i => rightT x (s.a.getD (if s.many = true then 0 else i) 0) && rightL l s (i + 1)
end
theorem rightT_mk (t : S24) (want : Int) : rightT t want = if t.f0 < 1 ∨ 28 < t.f0 then false else okHead (shp t.f0.toNat) t.f1 t.f2 t.f3.length want && rightL t.f3 (shp t.f0.toNat) 0 := by cases t; rw [rightT]

/-- The table in memory. -/
def TabAt (W : World) (bt : Nat) : Prop := ∀ i, i < 29 → ∃ A : Option Addr, W.cell? ⟨bt, i * 5, none⟩ = some (.int .i64 (shp i).sort) ∧ W.cell? ⟨bt, i * 5 + 1, none⟩ = some (.bool (shp i).name) ∧ W.cell? ⟨bt, i * 5 + 2, none⟩ = some (.bool (shp i).number) ∧ W.cell? ⟨bt, i * 5 + 3, none⟩ = some (.slice A (shp i).a.length (shp i).a.length) ∧ W.cell? ⟨bt, i * 5 + 4, none⟩ = some (.bool (shp i).many) ∧ Kd.C (Kd.int .i64) W A (shp i).a.length (shp i).a
end Go.Proofs.YthckboogibhjaaaDoor.Trm
end

section
/- term.right: whether a term is, but for its size, and of a sort. -/
namespace Go.Proofs.YthckboogibhjaaaDoor.Trm
set_option linter.unusedVariables false
set_option linter.unusedSimpArgs false
open Go.RowKit Go.Proofs.YthckboogibhjaaaDoorW.PrintWords Go.Proofs.YthckboogibhjaaaDoorW.PrintMore

set_option maxHeartbeats 8000000 in
set_option maxRecDepth 100000 in
theorem right_any : ∀ (n : Nat) (t : S24), tsize t ≤ n → ∀ (A : Option Addr) (c : Nat) (bt : Nat) (want : Int) (w0 w : World),
    Kd.C k24 w0 A t.f3.length t.f3 → t.f3.length ≤ c → Below w0.heap.size w0 w → TabAt w0 bt →
    Calls Tryd.prog 39 #[.agg #[.int .i64 t.f0, .string t.f1, .int .i64 t.f2, .slice A t.f3.length c], .pointer (some ⟨bt, 0, none⟩), .int .i64 want] w fun e w' => e = .returned (.bool (rightT t want)) ∧ Below w.heap.size w w' := by
  intro n
  induction n with
  | zero => intro t ht; rw [tsize_mk] at ht; omega
  | succ n ih =>
    intro t ht A c bt want w0 w hC hc hB hT
    have HC := Lib.hid hC
    have HB := Lib.hid hB
    have HT := Lib.hid hT
    have HIH := Lib.hid ih
    clear hC hB hT ih
    have hR := rightT_mk t want
    by_cases hop : t.f0 < 1 ∨ 28 < t.f0
    · rw [if_pos hop] at hR
      rw [hR]
      go_enter Tryd.func39, Tryd.ntmps39
      go_wp2
      all_goals (try (exfalso; omega))
      all_goals exact bodyPost_ret (v := .bool false) (by simp [results, Tryd.results39, go_sem]) rfl ⟨rfl, (by repeat (first | exact Below.refl _ _ | with_reducible assumption | refine Below.alloc ?_ (by first | exact Nat.le_refl _ | (simp; done) | (simp; omega) | omega) _ | refine Below.setCell ?_ (by first | exact Nat.le_refl _ | (simp; done) | (simp; omega) | omega) _ | refine Below.drew ?_ | refine bdrewN ?_ _))⟩
    · rw [if_neg hop] at hR
      obtain ⟨i, hi⟩ : ∃ i : Nat, t.f0 = i := Int.eq_ofNat_of_zero_le (by omega)
      have hi29 : i < 29 := by omega
      rw [hi, Int.toNat_natCast] at hR
      obtain ⟨As, y0, y1, y2, y3, y4, yC⟩ := HT.out i hi29
      have z0 := World.block_lt_of_cell? w0 _ y0
      have y0' := (HB.out.cell (World.block_lt_of_cell? w0 _ y0)).trans y0
      have y1' := (HB.out.cell (World.block_lt_of_cell? w0 _ y1)).trans y1
      have y2' := (HB.out.cell (World.block_lt_of_cell? w0 _ y2)).trans y2
      have y3' := (HB.out.cell (World.block_lt_of_cell? w0 _ y3)).trans y3
      have y4' := (HB.out.cell (World.block_lt_of_cell? w0 _ y4)).trans y4
      clear y0 y1 y2 y3 y4
      have hlen := shp_len hi29
      have hmany := fun h => shp_many hi29 h
      generalize shp i = s at *
      have HR := Lib.hid hR
      clear hR
      have h28 : (28 < (i : Int)) = False := eq_false (by omega)
      have h01 : ((i : Int) < 1) = False := eq_false (by omega)
      rw [hi]
      clear hop
      have h29 : ((i : Int) < 29) = True := eq_true (by omega)
      go_enter Tryd.func39, Tryd.ntmps39
      have zb : bt < w.heap.size := Nat.lt_of_lt_of_le z0 HB.out.size
      have zb2 : bt < w.heap.size + 1 := by omega
      have e0 : (w.alloc (.cells #[.int .i64 i, .string t.f1, .int .i64 t.f2, .slice A t.f3.length c] 24)).heap[w.heap.size]? = some (.cells #[.int .i64 i, .string t.f1, .int .i64 t.f2, .slice A t.f3.length c] 24 (0, 0)) := blk_new _ _
      have E0 := Lib.hid e0
      clear e0
      go_wp2
      all_goals (try (exfalso; omega))
      refine wp_region_held_drew (S := (fun w' => w'.cell? ⟨bt, i * 5, none⟩ = some (.int .i64 s.sort) ∧ w'.cell? ⟨bt, i * 5 + 1, none⟩ = some (.bool s.name) ∧ w'.cell? ⟨bt, i * 5 + 2, none⟩ = some (.bool s.number) ∧ w'.cell? ⟨bt, i * 5 + 3, none⟩ = some (.slice As s.a.length s.a.length) ∧ w'.cell? ⟨bt, i * 5 + 4, none⟩ = some (.bool s.many) ∧ w'.cell? ⟨w.heap.size, 0, none⟩ = some (.int .i64 i))) (by kernel_rfl) ?_ (fun hHeld => ?_)
      · (refine ⟨?_, ?_, ?_, ?_, ?_, ?_⟩ <;> (simp [go_sem, y0', y1', y2', y3', y4', zb, zb2]; done))
      iterate 6 ((first | refine tk0 ?_ (by decide +kernel) (by rfl) (fun _ _ _ => id) ?_ (by assumption) ?_ | refine tk1 ?_ (by decide +kernel) (by rfl) (fun _ _ _ => id) ?_ (by assumption) ?_ | refine tk2 ?_ (by decide +kernel) (by rfl) (fun _ _ _ => id) ?_ (by assumption) ?_ | refine tk3 ?_ (by decide +kernel) (by rfl) (fun _ _ _ => id) ?_ (by assumption) ?_ | refine tk4 ?_ (by decide +kernel) (by rfl) (fun _ _ _ => id) ?_ (by assumption) ?_ | refine tk5 ?_ (by decide +kernel) (by rfl) (fun _ _ _ => id) ?_ (by assumption) ?_); (rotate_left 1); (focus (intro w_ hSw; (try dsimp only at hSw); go_simp; all_goals (with_reducible rfl); done)); focus try simp only [Act.put, List.setIfInBounds_toArray, List.set_cons_zero, List.set_cons_succ])
      refine wpAnyH_ready (rs := [6]) (by kernel_rfl) (by simp) (ac6 (fun K hK => ?_) (AllReadyH.nil))
      focus go_simp
      refine hK.out _ _ ?_ (fun hHeld => ?_)
      · (refine ⟨?_, ?_, ?_, ?_, ?_, ?_⟩ <;> (simp [go_sem, y0', y1', y2', y3', y4', zb, zb2]; done))
      focus clear hK K; try simp only [Act.put, List.setIfInBounds_toArray, List.set_cons_zero, List.set_cons_succ]
      refine wpAnyH_ready (rs := [7]) (by kernel_rfl) (by simp) (ac7 (fun K hK => ?_) (AllReadyH.nil))
      focus go_simp
      refine hK.out _ _ ?_ (fun hHeld => ?_)
      · (refine ⟨?_, ?_, ?_, ?_, ?_, ?_⟩ <;> (simp [go_sem, y0', y1', y2', y3', y4', zb, zb2]; done))
      focus clear hK K; try simp only [Act.put, List.setIfInBounds_toArray, List.set_cons_zero, List.set_cons_succ]
      refine wpAnyH_done (by kernel_rfl) ?_ _; rotate_left 1
      go_upto_region 4 with (fail)
      refine wp_world (fun wx => Below w.heap.size w wx ∧ wx.heap[w.heap.size]? = some (.cells #[.int .i64 i, .string t.f1, .int .i64 t.f2, .slice A t.f3.length c] 24 (0, 0)) ∧ wx.heap[w.heap.size + 1]? = some (.cells #[.int .i64 s.sort, .bool s.name, .bool s.number, .slice As s.a.length s.a.length, .bool s.many] 61 (0, 0))) ⟨(by repeat (first | exact Below.refl _ _ | with_reducible assumption | refine Below.alloc ?_ (by first | exact Nat.le_refl _ | (simp; done) | (simp; omega) | omega) _ | refine Below.setCell ?_ (by first | exact Nat.le_refl _ | (simp; done) | (simp; omega) | omega) _ | refine Below.drew ?_ | refine bdrewN ?_ _)), blk_drew (blk_alloc E0.out _), blk_drew (by have := blk_new (w.alloc (.cells #[.int .i64 i, .string t.f1, .int .i64 t.f2, .slice A t.f3.length c] 24)) (.cells #[.int .i64 s.sort, .bool s.name, .bool s.number, .slice As s.a.length s.a.length, .bool s.many] 61); simpa using this)⟩ ?_
      rintro wx ⟨hbx, k0, k1⟩
      clear y0' y1' y2' y3' y4' E0
      have HBX := Lib.hid hbx
      have K0 := Lib.hid k0
      have K1 := Lib.hid k1
      clear hbx k0 k1
      go_cut [0, 2, 75] (fun v0 v2 v75 w' => v0 = .agg #[.int .i64 i, .string t.f1, .int .i64 t.f2, .slice A t.f3.length c] ∧ v2 = .int .i64 want ∧ v75 = .bool (!okHead s t.f1 t.f2 t.f3.length want) ∧ Below w.heap.size w w' ∧ w'.heap[w.heap.size]? = some (.cells #[.int .i64 i, .string t.f1, .int .i64 t.f2, .slice A t.f3.length c] 24 (0, 0)) ∧ w'.heap[w.heap.size + 1]? = some (.cells #[.int .i64 s.sort, .bool s.name, .bool s.number, .slice As s.a.length s.a.length, .bool s.many] 61 (0, 0)))
      case first =>
        have a1 := (blk_cell K0.out 1).trans rfl
        have a2 := (blk_cell K0.out 2).trans rfl
        have a3 := (blk_cell K0.out 3).trans rfl
        have b0 := (blk_cell K1.out 0).trans rfl
        have b1 := (blk_cell K1.out 1).trans rfl
        have b2 := (blk_cell K1.out 2).trans rfl
        have b3 := (blk_cell K1.out 3).trans rfl
        have b4 := (blk_cell K1.out 4).trans rfl
        go_wp2_with (go_at_call 51; refine (Name_any _ _).mono ?_; rintro e w1 ⟨rfl, hb1⟩; have a1' := (blk_cell (blk_below K0.out hb1) 1).trans rfl; have a2' := (blk_cell (blk_below K0.out hb1) 2).trans rfl; have a3' := (blk_cell (blk_below K0.out hb1) 3).trans rfl; have b1' := (blk_cell (blk_below K1.out hb1) 1).trans rfl; have b2' := (blk_cell (blk_below K1.out hb1) 2).trans rfl; have b3' := (blk_cell (blk_below K1.out hb1) 3).trans rfl; have b4' := (blk_cell (blk_below K1.out hb1) 4).trans rfl)
        all_goals
          go_meet
          case rel =>
            refine ⟨by simp [*], by simp [*], ?_, by first | exact HBX.out | exact HBX.out.trans (hb1.mono HBX.out.size), by first | exact K0.out | exact blk_below K0.out hb1, by first | exact K1.out | exact blk_below K1.out hb1⟩
            clear HIH HC HB HT HBX K0 K1 HR
            simp [okHead, *]
      case rest =>
        obtain ⟨r0, r2, r75, hbc, k0c, k1c⟩ := hcut
        subst r0 r2 r75
        have HBC := Lib.hid hbc
        have K0 := Lib.hid k0c
        have K1 := Lib.hid k1c
        clear hbc k0c k1c
        cases hok : okHead s t.f1 t.f2 t.f3.length want with
        | false =>
          go_wp2
          exact bodyPost_ret (v := .bool false) (by simp [results, Tryd.results39, go_sem]) rfl ⟨by rw [HR.out, hok]; rfl, HBC.out⟩
        | true =>
          have hRR := HR.out
          rw [hok, Bool.true_and] at hRR
          have HR2 := Lib.hid hRR
          clear hRR HR
          have a3 := (blk_cell K0.out 3).trans rfl
          go_wp2
          go_loopw [79] (fun v wr => ∃ j : Nat, j ≤ t.f3.length ∧ v = .int .i64 j ∧ rightL t.f3 s 0 = rightL (t.f3.drop j) s j ∧ Below wc.heap.size wc wr) (fun v _ => t.f3.length - (intOf v).toNat)
          case atStart => exact ⟨0, Nat.zero_le _, rfl, by rw [List.drop_zero], Below.refl _ _⟩
          case round =>
            obtain ⟨j, hj, rfl, hL, hbr⟩ := hrel
            by_cases hjl : j < t.f3.length
            · have hmax := Kd.C_max HC.out
              obtain ⟨ad, A', c', e, x0, x1, x2, x3, l', C'⟩ := at_T24 HC.out (j : Int) (by omega) (by omega)
              have hbw : Below w0.heap.size w0 wr := (HB.out.trans (HBC.out.mono HB.out.size)).trans (hbr.mono (Nat.le_trans HB.out.size HBC.out.size))
              have hd : t.f3.drop j = rd_T24 t.f3 (j : Int) :: t.f3.drop (j + 1) := by
                rw [List.drop_eq_getElem_cons hjl]; simp [rd_T24, List.getElem?_eq_getElem hjl]
              have hmem : rd_T24 t.f3 (j : Int) ∈ t.f3 := by
                have : rd_T24 t.f3 (j : Int) = t.f3[j] := by simp [rd_T24, List.getElem?_eq_getElem hjl]
                rw [this]; exact List.getElem_mem hjl
              have hts := lsize_mem hmem
              rw [tsize_mk] at ht
              rw [hd, rightL] at hL
              generalize rd_T24 t.f3 (j : Int) = x at *
              replace x0 := (hbw.cell (World.block_lt_of_cell? w0 _ x0)).trans x0
              replace x1 := (hbw.cell (World.block_lt_of_cell? w0 _ x1)).trans x1
              replace x2 := (hbw.cell (World.block_lt_of_cell? w0 _ x2)).trans x2
              replace x3 := (hbw.cell (World.block_lt_of_cell? w0 _ x3)).trans x3
              rw [Int.toNat_natCast] at x0 x1 x2 x3
              subst e
              cases hmm : s.many with
              | true =>
                have hix : 0 < s.a.length := by rw [hmany hmm]; exact Nat.zero_lt_one
                rw [hmm, if_pos rfl] at hL
                have ra := Kd.at_int yC ((0 : Nat) : Int) (by omega) (by omega)
                obtain ⟨adS, eA, ya⟩ := ra
                replace ya := (hbw.cell (World.block_lt_of_cell? w0 _ ya)).trans ya
                have erd : rd s.a ((0 : Nat) : Int) = s.a.getD 0 0 := by unfold rd; rw [Int.toNat_natCast]
                rw [erd, Int.toNat_natCast] at ya
                subst eA
                have eAz : adS.add 0 = adS := by simp [Addr.add]
                rw [eAz] at ya
                obtain ⟨vI, hvI⟩ : ∃ v, v = s.a.getD 0 0 := ⟨_, rfl⟩
                rw [← hvI] at ya hL
                clear erd hvI
                have zya := World.block_lt_of_cell? wr _ ya
                have b4 : wr.cell? ⟨w.heap.size + 1, 4, none⟩ = some (.bool true) := (blk_cell (blk_below K1.out hbr) 4).trans (by rw [hmm]; rfl)
                have b3 : wr.cell? ⟨w.heap.size + 1, 3, none⟩ = some (.slice (some adS) s.a.length s.a.length) := (blk_cell (blk_below K1.out hbr) 3).trans rfl
                have zl : w.heap.size + 1 < wr.heap.size := blk_lt (blk_below K1.out hbr)
                have p1 : ((0 : Int) < (s.a.length : Int)) = True := eq_true (by omega)
                have p0 : (0 ≤ (0 : Int)) = True := eq_true (by omega)
                have hxn : tsize x ≤ n := by clear p1 p0; omega
                have HL := Lib.hid hL
                have HBR := Lib.hid hbr
                have HBW := Lib.hid hbw
                have HCx := Lib.hid C'
                clear hL hbr hbw C'
                have ycell : ∀ o, (wr.alloc o).cell? adS = some (.int .i64 vI) := fun o => by rw [World.cell?_alloc_some _ _ _ (by rw [ya]; rfl), ya]
                have YC := Lib.hid ycell
                clear ycell
                go_upto_region 11 with (fail)
                refine wp_region_held_drew (S := (fun w' => w'.cell? ⟨wr.heap.size, 0, none⟩ = some (.int .i64 x.f0) ∧ w'.cell? ⟨wr.heap.size, 1, none⟩ = some (.string x.f1) ∧ w'.cell? ⟨wr.heap.size, 2, none⟩ = some (.int .i64 x.f2) ∧ w'.cell? ⟨wr.heap.size, 3, none⟩ = some (.slice A' x.f3.length c') ∧ w'.cell? ⟨w.heap.size + 1, 3, none⟩ = some (.slice (some adS) s.a.length s.a.length) ∧ w'.cell? adS = some (.int .i64 vI) ∧ Below w0.heap.size w0 w' ∧ Below wr.heap.size wr w')) (by kernel_rfl) ?_ (fun hHeld => ?_)
                · exact ⟨by simp [go_sem], by simp [go_sem], by simp [go_sem], by simp [go_sem], by simp [go_sem, b3, zl], YC.out _, (HBW.out.alloc HBW.out.size _).drew, ((Below.refl _ _).alloc (Nat.le_refl _) _).drew⟩
                iterate 7 ((first | refine tk0 ?_ (by decide +kernel) (by rfl) (fun _ _ _ => id) ?_ (by assumption) ?_ | refine tk1 ?_ (by decide +kernel) (by rfl) (fun _ _ _ => id) ?_ (by assumption) ?_ | refine tk2 ?_ (by decide +kernel) (by rfl) (fun _ _ _ => id) ?_ (by assumption) ?_ | refine tk3 ?_ (by decide +kernel) (by rfl) (fun _ _ _ => id) ?_ (by assumption) ?_ | refine tk4 ?_ (by decide +kernel) (by rfl) (fun _ _ _ => id) ?_ (by assumption) ?_ | refine tk5 ?_ (by decide +kernel) (by rfl) (fun _ _ _ => id) ?_ (by assumption) ?_ | refine tk6 ?_ (by decide +kernel) (by rfl) (fun _ _ _ => id) ?_ (by assumption) ?_); (rotate_left 1); (focus (intro w_ hSw; (try dsimp only at hSw); go_simp; all_goals (with_reducible rfl); done)); focus try simp only [Act.put, List.setIfInBounds_toArray, List.set_cons_zero, List.set_cons_succ])
                refine wpAnyH_ready (rs := [7]) (by kernel_rfl) (by simp) (ac7 (fun K hK => ?_) (AllReadyH.nil))
                focus go_simp
                focus (refine (HIH.out x hxn A' c' bt vI w0 _ HCx.out l' ?hb HT.out).mono ?_; (case hb => exact (HBW.out.alloc HBW.out.size _).drew); rintro e w2 ⟨rfl, hb2⟩)
                focus try simp only []
                refine hK.out _ _ ?_ (fun hHeld => ?_)
                · exact ⟨kcell hb2 hHeld.1, kcell hb2 hHeld.2.1, kcell hb2 hHeld.2.2.1, kcell hb2 hHeld.2.2.2.1, kcell hb2 hHeld.2.2.2.2.1, kcell hb2 hHeld.2.2.2.2.2.1, hHeld.2.2.2.2.2.2.1.trans (hb2.mono hHeld.2.2.2.2.2.2.1.size), hHeld.2.2.2.2.2.2.2.trans (hb2.mono hHeld.2.2.2.2.2.2.2.size)⟩
                focus clear hK K; try simp only [Act.put, List.setIfInBounds_toArray, List.set_cons_zero, List.set_cons_succ]
                refine tk8 ?_ (by kernel_rfl) (by rfl) (fun _ _ _ => id) ?_ (by assumption) ?_; rotate_left 1; (focus (intro w_ hSw; (try dsimp only at hSw); go_simp; all_goals (with_reducible rfl); done)); focus try simp only [Act.put, List.setIfInBounds_toArray, List.set_cons_zero, List.set_cons_succ]
                refine wpAnyH_done (by kernel_rfl) ?_ _; rotate_left 1
                have hw2 := hHeld.2.2.2.2.2.2.2
                clear hHeld
                have HW2 := Lib.hid hw2
                clear hw2
                cases hrx : rightT x vI with
                | false =>
                  have hl2 := HL.out
                  rw [hrx, Bool.false_and] at hl2
                  have HL2 := Lib.hid hl2
                  clear hl2 HL
                  go_wp2
                  exact bodyPost_ret (v := .bool false) (by simp [results, Tryd.results39, go_sem]) rfl ⟨by rw [HR2.out, HL2.out], (HBC.out.trans (HBR.out.mono HBC.out.size)).trans (HW2.out.mono (Nat.le_trans HBC.out.size HBR.out.size))⟩
                | true =>
                  have hl2 := HL.out
                  rw [hrx, Bool.true_and] at hl2
                  have HL2 := Lib.hid hl2
                  clear hl2 HL
                  have hj9 : j + 1 < 9223372036854775808 := by clear p1 p0; omega
                  have ew : wrap64 ((j : Int) + 1) = ((j + 1 : Nat) : Int) := wrapj hj9
                  have EW := Lib.hid ew
                  clear ew
                  go_wp2
                  refine ⟨?_, ?_⟩
                  · refine ⟨_, _, _, _, _, _, _, _, _, _, _, _, _, _, _, _, _, _, _, _, ?_, rfl⟩
                    exact ⟨j + 1, hjl, by first | rfl | rw [EW.out], HL2.out, HBR.out.trans (HW2.out.mono HBR.out.size)⟩
                  · first
                    | exact Nat.sub_lt_sub_left hjl (Nat.lt_succ_self _)
                    | (simp only [EW.out, List.getD_toArray, List.getD_cons_succ, List.getD_cons_zero, intOf, Int.toNat_natCast]; exact Nat.sub_lt_sub_left hjl (Nat.lt_succ_self _))
              | false =>
                have hix : j < s.a.length := by rw [← ok_len hok hmm]; exact hjl
                rw [hmm, if_neg (by decide)] at hL
                have ra := Kd.at_int yC ((j : Nat) : Int) (by omega) (by omega)
                obtain ⟨adS, eA, ya⟩ := ra
                replace ya := (hbw.cell (World.block_lt_of_cell? w0 _ ya)).trans ya
                have erd : rd s.a ((j : Nat) : Int) = s.a.getD j 0 := by unfold rd; rw [Int.toNat_natCast]
                rw [erd, Int.toNat_natCast] at ya
                subst eA
                obtain ⟨vI, hvI⟩ : ∃ v, v = s.a.getD j 0 := ⟨_, rfl⟩
                rw [← hvI] at ya hL
                clear erd hvI
                have zya := World.block_lt_of_cell? wr _ ya
                have b4 : wr.cell? ⟨w.heap.size + 1, 4, none⟩ = some (.bool false) := (blk_cell (blk_below K1.out hbr) 4).trans (by rw [hmm]; rfl)
                have b3 : wr.cell? ⟨w.heap.size + 1, 3, none⟩ = some (.slice (some adS) s.a.length s.a.length) := (blk_cell (blk_below K1.out hbr) 3).trans rfl
                have zl : w.heap.size + 1 < wr.heap.size := blk_lt (blk_below K1.out hbr)
                have p1 : ((j : Int) < (s.a.length : Int)) = True := eq_true (by omega)
                have p0 : (0 ≤ (j : Int)) = True := eq_true (by omega)
                have hxn : tsize x ≤ n := by clear p1 p0; omega
                have HL := Lib.hid hL
                have HBR := Lib.hid hbr
                have HBW := Lib.hid hbw
                have HCx := Lib.hid C'
                clear hL hbr hbw C'
                have ycell : ∀ o, (wr.alloc o).cell? (adS.add j) = some (.int .i64 vI) := fun o => by rw [World.cell?_alloc_some _ _ _ (by rw [ya]; rfl), ya]
                have YC := Lib.hid ycell
                clear ycell
                go_upto_region 11 with (fail)
                refine wp_region_held_drew (S := (fun w' => w'.cell? ⟨wr.heap.size, 0, none⟩ = some (.int .i64 x.f0) ∧ w'.cell? ⟨wr.heap.size, 1, none⟩ = some (.string x.f1) ∧ w'.cell? ⟨wr.heap.size, 2, none⟩ = some (.int .i64 x.f2) ∧ w'.cell? ⟨wr.heap.size, 3, none⟩ = some (.slice A' x.f3.length c') ∧ w'.cell? ⟨w.heap.size + 1, 3, none⟩ = some (.slice (some adS) s.a.length s.a.length) ∧ w'.cell? (adS.add j) = some (.int .i64 vI) ∧ Below w0.heap.size w0 w' ∧ Below wr.heap.size wr w')) (by kernel_rfl) ?_ (fun hHeld => ?_)
                · exact ⟨by simp [go_sem], by simp [go_sem], by simp [go_sem], by simp [go_sem], by simp [go_sem, b3, zl], YC.out _, (HBW.out.alloc HBW.out.size _).drew, ((Below.refl _ _).alloc (Nat.le_refl _) _).drew⟩
                iterate 7 ((first | refine tk0 ?_ (by decide +kernel) (by rfl) (fun _ _ _ => id) ?_ (by assumption) ?_ | refine tk1 ?_ (by decide +kernel) (by rfl) (fun _ _ _ => id) ?_ (by assumption) ?_ | refine tk2 ?_ (by decide +kernel) (by rfl) (fun _ _ _ => id) ?_ (by assumption) ?_ | refine tk3 ?_ (by decide +kernel) (by rfl) (fun _ _ _ => id) ?_ (by assumption) ?_ | refine tk4 ?_ (by decide +kernel) (by rfl) (fun _ _ _ => id) ?_ (by assumption) ?_ | refine tk5 ?_ (by decide +kernel) (by rfl) (fun _ _ _ => id) ?_ (by assumption) ?_ | refine tk6 ?_ (by decide +kernel) (by rfl) (fun _ _ _ => id) ?_ (by assumption) ?_); (rotate_left 1); (focus (intro w_ hSw; (try dsimp only at hSw); go_simp; all_goals (with_reducible rfl); done)); focus try simp only [Act.put, List.setIfInBounds_toArray, List.set_cons_zero, List.set_cons_succ])
                refine wpAnyH_ready (rs := [7]) (by kernel_rfl) (by simp) (ac7 (fun K hK => ?_) (AllReadyH.nil))
                focus go_simp
                focus (refine (HIH.out x hxn A' c' bt vI w0 _ HCx.out l' ?hb HT.out).mono ?_; (case hb => exact (HBW.out.alloc HBW.out.size _).drew); rintro e w2 ⟨rfl, hb2⟩)
                focus try simp only []
                refine hK.out _ _ ?_ (fun hHeld => ?_)
                · exact ⟨kcell hb2 hHeld.1, kcell hb2 hHeld.2.1, kcell hb2 hHeld.2.2.1, kcell hb2 hHeld.2.2.2.1, kcell hb2 hHeld.2.2.2.2.1, kcell hb2 hHeld.2.2.2.2.2.1, hHeld.2.2.2.2.2.2.1.trans (hb2.mono hHeld.2.2.2.2.2.2.1.size), hHeld.2.2.2.2.2.2.2.trans (hb2.mono hHeld.2.2.2.2.2.2.2.size)⟩
                focus clear hK K; try simp only [Act.put, List.setIfInBounds_toArray, List.set_cons_zero, List.set_cons_succ]
                refine tk8 ?_ (by kernel_rfl) (by rfl) (fun _ _ _ => id) ?_ (by assumption) ?_; rotate_left 1; (focus (intro w_ hSw; (try dsimp only at hSw); go_simp; all_goals (with_reducible rfl); done)); focus try simp only [Act.put, List.setIfInBounds_toArray, List.set_cons_zero, List.set_cons_succ]
                refine wpAnyH_done (by kernel_rfl) ?_ _; rotate_left 1
                have hw2 := hHeld.2.2.2.2.2.2.2
                clear hHeld
                have HW2 := Lib.hid hw2
                clear hw2
                cases hrx : rightT x vI with
                | false =>
                  have hl2 := HL.out
                  rw [hrx, Bool.false_and] at hl2
                  have HL2 := Lib.hid hl2
                  clear hl2 HL
                  go_wp2
                  exact bodyPost_ret (v := .bool false) (by simp [results, Tryd.results39, go_sem]) rfl ⟨by rw [HR2.out, HL2.out], (HBC.out.trans (HBR.out.mono HBC.out.size)).trans (HW2.out.mono (Nat.le_trans HBC.out.size HBR.out.size))⟩
                | true =>
                  have hl2 := HL.out
                  rw [hrx, Bool.true_and] at hl2
                  have HL2 := Lib.hid hl2
                  clear hl2 HL
                  have hj9 : j + 1 < 9223372036854775808 := by clear p1 p0; omega
                  have ew : wrap64 ((j : Int) + 1) = ((j + 1 : Nat) : Int) := wrapj hj9
                  have EW := Lib.hid ew
                  clear ew
                  go_wp2
                  refine ⟨?_, ?_⟩
                  · refine ⟨_, _, _, _, _, _, _, _, _, _, _, _, _, _, _, _, _, _, _, _, ?_, rfl⟩
                    exact ⟨j + 1, hjl, by first | rfl | rw [EW.out], HL2.out, HBR.out.trans (HW2.out.mono HBR.out.size)⟩
                  · first
                    | exact Nat.sub_lt_sub_left hjl (Nat.lt_succ_self _)
                    | (simp only [EW.out, List.getD_toArray, List.getD_cons_succ, List.getD_cons_zero, intOf, Int.toNat_natCast]; exact Nat.sub_lt_sub_left hjl (Nat.lt_succ_self _))
            · have hjj : j = t.f3.length := by omega
              subst hjj
              rw [List.drop_length, rightL] at hL
              go_wp2
              exact bodyPost_ret (v := .bool true) (by simp [results, Tryd.results39, go_sem]) rfl ⟨by rw [HR2.out, hL], HBC.out.trans (hbr.mono HBC.out.size)⟩
end Go.Proofs.YthckboogibhjaaaDoor.Trm
end

section
/- term.shapes: the table of operations. -/
namespace Go.Proofs.YthckboogibhjaaaDoor.Trm
set_option linter.unusedVariables false
set_option linter.unusedSimpArgs false
open Go.RowKit Go.Proofs.YthckboogibhjaaaDoorW.PrintWords Go.Proofs.YthckboogibhjaaaDoorW.PrintMore

/-- A row of the table in cells. -/
def rowCells (s : Shp) (A : Option Addr) : List Value := [.int .i64 s.sort, .bool s.name, .bool s.number, .slice A s.a.length s.a.length, .bool s.many]
def tabCells : List Shp → List (Option Addr) → List Value
  | s :: l, A :: m => rowCells s A ++ tabCells l m
  | _, _ => []

theorem row_ints {W : World} {g : Nat} {xs : List Int} (hn : 0 < xs.length) (hm : xs.length ≤ 2) (h : W.heap[g]? = some (.cells (xs.map (Value.int .i64)).toArray 3 (0, 0))) : Kd.C (Kd.int .i64) W (some ⟨g, 0, none⟩) xs.length xs := by
  refine ⟨rfl, by omega, fun _ => ⟨_, rfl, fun j p hj => ⟨[.int .i64 p], rfl, rfl, fun i u hu => ?_⟩⟩⟩
  have hi : i = 0 := by
    cases i with
    | zero => rfl
    | succ i => simp at hu
  subst hi
  have hu' : u = .int .i64 p := by simpa using hu.symm
  subst hu'
  have e : (⟨g, 0, none⟩ : Addr).add (j * 1 + 0) = ⟨g, j, none⟩ := by unfold Addr.add; split <;> simp_all
  show W.cell? ((⟨g, 0, none⟩ : Addr).add (j * 1 + 0)) = _
  rw [e, blk_cell h j]
  simp [hj]

theorem tab_of {W : World} {g : Nat} {a0 a1 a2 a3 a4 a5 a6 a7 a8 a9 a10 a11 a12 a13 a14 a15 a16 a17 a18 a19 a20 a21 a22 a23 a24 a25 a26 a27 a28 : Option Addr} (h : W.heap[g]? = some (.cells (tabCells shps [a0, a1, a2, a3, a4, a5, a6, a7, a8, a9, a10, a11, a12, a13, a14, a15, a16, a17, a18, a19, a20, a21, a22, a23, a24, a25, a26, a27, a28]).toArray 62 (0, 0)))
    (c0 : Kd.C (Kd.int .i64) W a0 0 [])
    (c1 : Kd.C (Kd.int .i64) W a1 0 [])
    (c2 : Kd.C (Kd.int .i64) W a2 0 [])
    (c3 : Kd.C (Kd.int .i64) W a3 1 [2])
    (c4 : Kd.C (Kd.int .i64) W a4 2 [1, 1])
    (c5 : Kd.C (Kd.int .i64) W a5 2 [1, 1])
    (c6 : Kd.C (Kd.int .i64) W a6 1 [1])
    (c7 : Kd.C (Kd.int .i64) W a7 0 [])
    (c8 : Kd.C (Kd.int .i64) W a8 0 [])
    (c9 : Kd.C (Kd.int .i64) W a9 0 [])
    (c10 : Kd.C (Kd.int .i64) W a10 1 [3])
    (c11 : Kd.C (Kd.int .i64) W a11 2 [2, 2])
    (c12 : Kd.C (Kd.int .i64) W a12 2 [2, 2])
    (c13 : Kd.C (Kd.int .i64) W a13 2 [2, 2])
    (c14 : Kd.C (Kd.int .i64) W a14 0 [])
    (c15 : Kd.C (Kd.int .i64) W a15 0 [])
    (c16 : Kd.C (Kd.int .i64) W a16 0 [])
    (c17 : Kd.C (Kd.int .i64) W a17 0 [])
    (c18 : Kd.C (Kd.int .i64) W a18 1 [4])
    (c19 : Kd.C (Kd.int .i64) W a19 1 [4])
    (c20 : Kd.C (Kd.int .i64) W a20 1 [4])
    (c21 : Kd.C (Kd.int .i64) W a21 2 [4, 4])
    (c22 : Kd.C (Kd.int .i64) W a22 2 [1, 1])
    (c23 : Kd.C (Kd.int .i64) W a23 2 [1, 1])
    (c24 : Kd.C (Kd.int .i64) W a24 2 [1, 1])
    (c25 : Kd.C (Kd.int .i64) W a25 2 [3, 2])
    (c26 : Kd.C (Kd.int .i64) W a26 2 [2, 2])
    (c27 : Kd.C (Kd.int .i64) W a27 2 [2, 2])
    (c28 : Kd.C (Kd.int .i64) W a28 2 [3, 3])
    : TabAt W g := by
  intro i hi
  match i, hi with
  | 0, _ => exact ⟨a0, (blk_cell h 0).trans rfl, (blk_cell h 1).trans rfl, (blk_cell h 2).trans rfl, (blk_cell h 3).trans rfl, (blk_cell h 4).trans rfl, c0⟩
  | 1, _ => exact ⟨a1, (blk_cell h 5).trans rfl, (blk_cell h 6).trans rfl, (blk_cell h 7).trans rfl, (blk_cell h 8).trans rfl, (blk_cell h 9).trans rfl, c1⟩
  | 2, _ => exact ⟨a2, (blk_cell h 10).trans rfl, (blk_cell h 11).trans rfl, (blk_cell h 12).trans rfl, (blk_cell h 13).trans rfl, (blk_cell h 14).trans rfl, c2⟩
  | 3, _ => exact ⟨a3, (blk_cell h 15).trans rfl, (blk_cell h 16).trans rfl, (blk_cell h 17).trans rfl, (blk_cell h 18).trans rfl, (blk_cell h 19).trans rfl, c3⟩
  | 4, _ => exact ⟨a4, (blk_cell h 20).trans rfl, (blk_cell h 21).trans rfl, (blk_cell h 22).trans rfl, (blk_cell h 23).trans rfl, (blk_cell h 24).trans rfl, c4⟩
  | 5, _ => exact ⟨a5, (blk_cell h 25).trans rfl, (blk_cell h 26).trans rfl, (blk_cell h 27).trans rfl, (blk_cell h 28).trans rfl, (blk_cell h 29).trans rfl, c5⟩
  | 6, _ => exact ⟨a6, (blk_cell h 30).trans rfl, (blk_cell h 31).trans rfl, (blk_cell h 32).trans rfl, (blk_cell h 33).trans rfl, (blk_cell h 34).trans rfl, c6⟩
  | 7, _ => exact ⟨a7, (blk_cell h 35).trans rfl, (blk_cell h 36).trans rfl, (blk_cell h 37).trans rfl, (blk_cell h 38).trans rfl, (blk_cell h 39).trans rfl, c7⟩
  | 8, _ => exact ⟨a8, (blk_cell h 40).trans rfl, (blk_cell h 41).trans rfl, (blk_cell h 42).trans rfl, (blk_cell h 43).trans rfl, (blk_cell h 44).trans rfl, c8⟩
  | 9, _ => exact ⟨a9, (blk_cell h 45).trans rfl, (blk_cell h 46).trans rfl, (blk_cell h 47).trans rfl, (blk_cell h 48).trans rfl, (blk_cell h 49).trans rfl, c9⟩
  | 10, _ => exact ⟨a10, (blk_cell h 50).trans rfl, (blk_cell h 51).trans rfl, (blk_cell h 52).trans rfl, (blk_cell h 53).trans rfl, (blk_cell h 54).trans rfl, c10⟩
  | 11, _ => exact ⟨a11, (blk_cell h 55).trans rfl, (blk_cell h 56).trans rfl, (blk_cell h 57).trans rfl, (blk_cell h 58).trans rfl, (blk_cell h 59).trans rfl, c11⟩
  | 12, _ => exact ⟨a12, (blk_cell h 60).trans rfl, (blk_cell h 61).trans rfl, (blk_cell h 62).trans rfl, (blk_cell h 63).trans rfl, (blk_cell h 64).trans rfl, c12⟩
  | 13, _ => exact ⟨a13, (blk_cell h 65).trans rfl, (blk_cell h 66).trans rfl, (blk_cell h 67).trans rfl, (blk_cell h 68).trans rfl, (blk_cell h 69).trans rfl, c13⟩
  | 14, _ => exact ⟨a14, (blk_cell h 70).trans rfl, (blk_cell h 71).trans rfl, (blk_cell h 72).trans rfl, (blk_cell h 73).trans rfl, (blk_cell h 74).trans rfl, c14⟩
  | 15, _ => exact ⟨a15, (blk_cell h 75).trans rfl, (blk_cell h 76).trans rfl, (blk_cell h 77).trans rfl, (blk_cell h 78).trans rfl, (blk_cell h 79).trans rfl, c15⟩
  | 16, _ => exact ⟨a16, (blk_cell h 80).trans rfl, (blk_cell h 81).trans rfl, (blk_cell h 82).trans rfl, (blk_cell h 83).trans rfl, (blk_cell h 84).trans rfl, c16⟩
  | 17, _ => exact ⟨a17, (blk_cell h 85).trans rfl, (blk_cell h 86).trans rfl, (blk_cell h 87).trans rfl, (blk_cell h 88).trans rfl, (blk_cell h 89).trans rfl, c17⟩
  | 18, _ => exact ⟨a18, (blk_cell h 90).trans rfl, (blk_cell h 91).trans rfl, (blk_cell h 92).trans rfl, (blk_cell h 93).trans rfl, (blk_cell h 94).trans rfl, c18⟩
  | 19, _ => exact ⟨a19, (blk_cell h 95).trans rfl, (blk_cell h 96).trans rfl, (blk_cell h 97).trans rfl, (blk_cell h 98).trans rfl, (blk_cell h 99).trans rfl, c19⟩
  | 20, _ => exact ⟨a20, (blk_cell h 100).trans rfl, (blk_cell h 101).trans rfl, (blk_cell h 102).trans rfl, (blk_cell h 103).trans rfl, (blk_cell h 104).trans rfl, c20⟩
  | 21, _ => exact ⟨a21, (blk_cell h 105).trans rfl, (blk_cell h 106).trans rfl, (blk_cell h 107).trans rfl, (blk_cell h 108).trans rfl, (blk_cell h 109).trans rfl, c21⟩
  | 22, _ => exact ⟨a22, (blk_cell h 110).trans rfl, (blk_cell h 111).trans rfl, (blk_cell h 112).trans rfl, (blk_cell h 113).trans rfl, (blk_cell h 114).trans rfl, c22⟩
  | 23, _ => exact ⟨a23, (blk_cell h 115).trans rfl, (blk_cell h 116).trans rfl, (blk_cell h 117).trans rfl, (blk_cell h 118).trans rfl, (blk_cell h 119).trans rfl, c23⟩
  | 24, _ => exact ⟨a24, (blk_cell h 120).trans rfl, (blk_cell h 121).trans rfl, (blk_cell h 122).trans rfl, (blk_cell h 123).trans rfl, (blk_cell h 124).trans rfl, c24⟩
  | 25, _ => exact ⟨a25, (blk_cell h 125).trans rfl, (blk_cell h 126).trans rfl, (blk_cell h 127).trans rfl, (blk_cell h 128).trans rfl, (blk_cell h 129).trans rfl, c25⟩
  | 26, _ => exact ⟨a26, (blk_cell h 130).trans rfl, (blk_cell h 131).trans rfl, (blk_cell h 132).trans rfl, (blk_cell h 133).trans rfl, (blk_cell h 134).trans rfl, c26⟩
  | 27, _ => exact ⟨a27, (blk_cell h 135).trans rfl, (blk_cell h 136).trans rfl, (blk_cell h 137).trans rfl, (blk_cell h 138).trans rfl, (blk_cell h 139).trans rfl, c27⟩
  | 28, _ => exact ⟨a28, (blk_cell h 140).trans rfl, (blk_cell h 141).trans rfl, (blk_cell h 142).trans rfl, (blk_cell h 143).trans rfl, (blk_cell h 144).trans rfl, c28⟩
  | n + 29, hi => exact absurd hi (by omega)

section
variable {P : Program} {ops : Array Oper} {rest : List Oper} {o : Oper} {a : Act} {Q : Exit → Act → World → Prop}
/-- A store of all cells of a block, as an event. -/
theorem put_event {W : World} (hgd : o.guard = none) {t : TypeId} {p x : Operand} (ho : o.op = .store t p x) (hN : o.dst = none) {g : Nat} {cur : Array Value} {seg : List Value} {u : Value} {e : TypeId}
    (haddr : a.eval p = .pointer (some ⟨g, 0, none⟩)) (hx : a.eval x = u) (hu : u.cells.toList = seg) (hh : W.heap[g]? = some (.cells cur e (0, 0))) (ht : (P.info? t).map (·.size) = some seg.length) (hfit : seg.length = cur.size) (h1 : ∀ q ∈ seg, q.oneCell' = true)
    (h : ∀ w', w'.heap[g]? = some (.cells seg.toArray e (0, 0)) → Mv g W w' → wpList P ops Q rest a w') : wpList P ops Q (o :: rest) a W := by
  refine wpList_plain hgd fun K hK => ?_
  have hrun : (Instr.storeAt t (.pointer (some ⟨g, 0, none⟩)) u).run P W = .ok () (W.setCells g 0 seg) := run_store_run t u seg hh hu ht (by omega) h1
  unfold Oper.wp execOp
  simp only [ho, haddr, hx, Sem.run_bind, Sem.run_pure, Result.andThen_ok, hrun]
  show K (a.put o.dst undef) _
  rw [hN]
  refine hK a _ (h _ ?_ ?_)
  · obtain ⟨cur', e1, e2, e3⟩ := setCells_row seg 0 W cur hh (by omega)
    rw [e1]
    have : cur' = seg.toArray := by
      apply Array.toList_inj.1
      rw [e3, List.take_zero, List.nil_append, List.drop_of_length_le (by rw [Array.length_toList]; omega), List.append_nil]
    rw [this]
  · obtain ⟨s1, s2, s3, s4⟩ := setCells_same g seg 0 W
    exact ⟨s1, s2, s3, Nat.le_of_eq s4.symm, fun k _ hk => setCells_far seg 0 k hk⟩
end

set_option maxHeartbeats 8000000 in
set_option maxRecDepth 100000 in
theorem two_any (s o : Int) (w : World) :
    Calls Tryd.prog 50 #[.int .i64 s, .int .i64 o] w fun e w' => e = .returned (.agg #[.int .i64 s, .bool false, .bool false, .slice (some ⟨w.heap.size + 1, 0, none⟩) 2 2, .bool false]) ∧ w' = (w.alloc (.cells #[.int .i64 s, .bool false, .bool false, .slice (some ⟨w.heap.size + 1, 0, none⟩) 2 2, .bool false] 61)).alloc (.cells #[.int .i64 o, .int .i64 o] 3) := by
  go_enter Tryd.func50, Tryd.ntmps50
  go_wp2
  exact bodyPost_ret (v := .agg #[.int .i64 s, .bool false, .bool false, .slice (some ⟨w.heap.size + 1, 0, none⟩) 2 2, .bool false]) (by simp [results, Tryd.results50, go_sem]) rfl ⟨rfl, rfl⟩

theorem two_row (s o : Int) (w : World) :
    Calls Tryd.prog 50 #[.int .i64 s, .int .i64 o] w fun e w' => ∃ g, e = .returned (.agg #[.int .i64 s, .bool false, .bool false, .slice (some ⟨g, 0, none⟩) 2 2, .bool false]) ∧ w'.heap[g]? = some (.cells #[.int .i64 o, .int .i64 o] 3 (0, 0)) ∧ Below w.heap.size w w' ∧ w.heap.size ≤ g := by
  refine (two_any s o w).mono ?_
  rintro e w' ⟨rfl, rfl⟩
  refine ⟨w.heap.size + 1, rfl, ?_, below_alloc (below_alloc (Below.refl _ _) _) _, by omega⟩
  have := blk_new (w.alloc (.cells #[.int .i64 s, .bool false, .bool false, .slice (some ⟨w.heap.size + 1, 0, none⟩) 2 2, .bool false] 61)) (.cells #[.int .i64 o, .int .i64 o] 3)
  simpa using this

/-- What shapes answers. -/
def ShapesPost (w : World) (e : Ending) (w' : World) : Prop := ∃ cells : Array Value, e = .returned (.agg cells) ∧ cells.size = 145 ∧ (∀ q ∈ cells.toList, q.oneCell' = true) ∧ Below w.heap.size w w' ∧ ∀ W g, Below w'.heap.size w' W → W.heap[g]? = some (.cells cells 62 (0, 0)) → TabAt W g

theorem blk_newk {w : World} {o : Obj} {k : Nat} (h : k = w.heap.size) : (w.alloc o).heap[k]? = some o := by subst h; exact blk_new w o
theorem bsize {B : Nat} {a w : World} (h : B ≤ a.heap.size) (hb : Below a.heap.size a w) : B ≤ w.heap.size := Nat.le_trans h hb.size
theorem bnext {B : Nat} {x a w : World} (h : Below B x a ∧ B ≤ a.heap.size) (hb : Below a.heap.size a w) : Below B x w ∧ B ≤ w.heap.size := ⟨h.1.trans (hb.mono h.2), Nat.le_trans h.2 hb.size⟩
theorem balloc {B : Nat} {x a : World} (h : Below B x a ∧ B ≤ a.heap.size) (o : Obj) : Below B x (a.alloc o) ∧ B ≤ (a.alloc o).heap.size := ⟨h.1.alloc h.2 o, by simp; omega⟩

end Go.Proofs.YthckboogibhjaaaDoor.Trm
end

section
/- term.shapes: its walk. -/
namespace Go.Proofs.YthckboogibhjaaaDoor.Trm
set_option linter.unusedVariables false
set_option linter.unusedSimpArgs false
open Go.RowKit Go.Proofs.YthckboogibhjaaaDoorW.PrintWords Go.Proofs.YthckboogibhjaaaDoorW.PrintMore

set_option maxHeartbeats 16000000 in
set_option maxRecDepth 100000 in
theorem shapes_any (w : World) :
    Calls Tryd.prog 38 #[] w fun e w' => ShapesPost w e w' := by
  go_enter Tryd.func38, Tryd.ntmps38
  go_wp2_with (first | ((with_reducible refine gate_dst (N := 0) rfl ?_); refine box_event ?hg (N := 0) ?hd (cs := Tryd.zeroCells62) (t := 62) ?hr ?_; (case hd => rfl); (case hg => rfl); (case hr => first | (go_simp; done) | (go_simp; rfl)); intro gt hgt v0 ht d0) | (go_at_call 50; refine (two_row _ _ _).mono ?_; rintro e w1 ⟨g1, rfl, h1, hb1, hg1⟩) | ((with_reducible refine gate_store (t := 62) (p := 0) rfl ?_); refine Hid.out ?_))
  rename_i v11 e11 f11 d11 l11
  rename_i v10 e10 f10 d10 l10
  rename_i v9 e9 f9 d9 l9
  rename_i v8 e8 f8 d8 l8
  rename_i v7 e7 f7 d7 l7
  rename_i v6 e6 f6 d6 l6
  rename_i v5 e5 f5 d5 l5
  rename_i v4 e4 f4 d4 l4
  rename_i v3 e3 f3 d3 l3
  rename_i v2 e2 f2 d2 l2
  rename_i v1 e1 f1 d1 l1
  refine Lib.hid ?_
  subst hgt
  have F3 : w1.heap[v0.heap.size]? = some (.cells #[.int .i64 2] 3 (0, 0)) := by (with_reducible repeat (first | exact blk_newk rfl | (refine blk_newk ?_; simp; done) | assumption | refine blk_alloc ?_ _ | refine blk_below ?_ hb1 | refine blk_below ?_ d11 | refine blk_below ?_ d10 | refine blk_below ?_ d9 | refine blk_below ?_ d8 | refine blk_below ?_ d7 | refine blk_below ?_ d6 | refine blk_below ?_ d5 | refine blk_below ?_ d4 | refine blk_below ?_ d3 | refine blk_below ?_ d2 | refine blk_below ?_ d1))
  have F4 : w1.heap[e1]? = some (.cells #[.int .i64 1, .int .i64 1] 3 (0, 0)) := by (with_reducible repeat (first | exact blk_newk rfl | (refine blk_newk ?_; simp; done) | assumption | refine blk_alloc ?_ _ | refine blk_below ?_ hb1 | refine blk_below ?_ d11 | refine blk_below ?_ d10 | refine blk_below ?_ d9 | refine blk_below ?_ d8 | refine blk_below ?_ d7 | refine blk_below ?_ d6 | refine blk_below ?_ d5 | refine blk_below ?_ d4 | refine blk_below ?_ d3 | refine blk_below ?_ d2 | refine blk_below ?_ d1))
  have F5 : w1.heap[e2]? = some (.cells #[.int .i64 1, .int .i64 1] 3 (0, 0)) := by (with_reducible repeat (first | exact blk_newk rfl | (refine blk_newk ?_; simp; done) | assumption | refine blk_alloc ?_ _ | refine blk_below ?_ hb1 | refine blk_below ?_ d11 | refine blk_below ?_ d10 | refine blk_below ?_ d9 | refine blk_below ?_ d8 | refine blk_below ?_ d7 | refine blk_below ?_ d6 | refine blk_below ?_ d5 | refine blk_below ?_ d4 | refine blk_below ?_ d3 | refine blk_below ?_ d2 | refine blk_below ?_ d1))
  have F6 : w1.heap[v2.heap.size]? = some (.cells #[.int .i64 1] 3 (0, 0)) := by (with_reducible repeat (first | exact blk_newk rfl | (refine blk_newk ?_; simp; done) | assumption | refine blk_alloc ?_ _ | refine blk_below ?_ hb1 | refine blk_below ?_ d11 | refine blk_below ?_ d10 | refine blk_below ?_ d9 | refine blk_below ?_ d8 | refine blk_below ?_ d7 | refine blk_below ?_ d6 | refine blk_below ?_ d5 | refine blk_below ?_ d4 | refine blk_below ?_ d3 | refine blk_below ?_ d2 | refine blk_below ?_ d1))
  have F10 : w1.heap[v2.heap.size + 1]? = some (.cells #[.int .i64 3] 3 (0, 0)) := by (with_reducible repeat (first | exact blk_newk rfl | (refine blk_newk ?_; simp; done) | assumption | refine blk_alloc ?_ _ | refine blk_below ?_ hb1 | refine blk_below ?_ d11 | refine blk_below ?_ d10 | refine blk_below ?_ d9 | refine blk_below ?_ d8 | refine blk_below ?_ d7 | refine blk_below ?_ d6 | refine blk_below ?_ d5 | refine blk_below ?_ d4 | refine blk_below ?_ d3 | refine blk_below ?_ d2 | refine blk_below ?_ d1))
  have F11 : w1.heap[e3]? = some (.cells #[.int .i64 2, .int .i64 2] 3 (0, 0)) := by (with_reducible repeat (first | exact blk_newk rfl | (refine blk_newk ?_; simp; done) | assumption | refine blk_alloc ?_ _ | refine blk_below ?_ hb1 | refine blk_below ?_ d11 | refine blk_below ?_ d10 | refine blk_below ?_ d9 | refine blk_below ?_ d8 | refine blk_below ?_ d7 | refine blk_below ?_ d6 | refine blk_below ?_ d5 | refine blk_below ?_ d4 | refine blk_below ?_ d3 | refine blk_below ?_ d2 | refine blk_below ?_ d1))
  have F12 : w1.heap[e4]? = some (.cells #[.int .i64 2, .int .i64 2] 3 (0, 0)) := by (with_reducible repeat (first | exact blk_newk rfl | (refine blk_newk ?_; simp; done) | assumption | refine blk_alloc ?_ _ | refine blk_below ?_ hb1 | refine blk_below ?_ d11 | refine blk_below ?_ d10 | refine blk_below ?_ d9 | refine blk_below ?_ d8 | refine blk_below ?_ d7 | refine blk_below ?_ d6 | refine blk_below ?_ d5 | refine blk_below ?_ d4 | refine blk_below ?_ d3 | refine blk_below ?_ d2 | refine blk_below ?_ d1))
  have F13 : w1.heap[e5]? = some (.cells #[.int .i64 2, .int .i64 2] 3 (0, 0)) := by (with_reducible repeat (first | exact blk_newk rfl | (refine blk_newk ?_; simp; done) | assumption | refine blk_alloc ?_ _ | refine blk_below ?_ hb1 | refine blk_below ?_ d11 | refine blk_below ?_ d10 | refine blk_below ?_ d9 | refine blk_below ?_ d8 | refine blk_below ?_ d7 | refine blk_below ?_ d6 | refine blk_below ?_ d5 | refine blk_below ?_ d4 | refine blk_below ?_ d3 | refine blk_below ?_ d2 | refine blk_below ?_ d1))
  have F18 : w1.heap[v5.heap.size]? = some (.cells #[.int .i64 4] 3 (0, 0)) := by (with_reducible repeat (first | exact blk_newk rfl | (refine blk_newk ?_; simp; done) | assumption | refine blk_alloc ?_ _ | refine blk_below ?_ hb1 | refine blk_below ?_ d11 | refine blk_below ?_ d10 | refine blk_below ?_ d9 | refine blk_below ?_ d8 | refine blk_below ?_ d7 | refine blk_below ?_ d6 | refine blk_below ?_ d5 | refine blk_below ?_ d4 | refine blk_below ?_ d3 | refine blk_below ?_ d2 | refine blk_below ?_ d1))
  have F19 : w1.heap[v5.heap.size + 1]? = some (.cells #[.int .i64 4] 3 (0, 0)) := by (with_reducible repeat (first | exact blk_newk rfl | (refine blk_newk ?_; simp; done) | assumption | refine blk_alloc ?_ _ | refine blk_below ?_ hb1 | refine blk_below ?_ d11 | refine blk_below ?_ d10 | refine blk_below ?_ d9 | refine blk_below ?_ d8 | refine blk_below ?_ d7 | refine blk_below ?_ d6 | refine blk_below ?_ d5 | refine blk_below ?_ d4 | refine blk_below ?_ d3 | refine blk_below ?_ d2 | refine blk_below ?_ d1))
  have F20 : w1.heap[v5.heap.size + 1 + 1]? = some (.cells #[.int .i64 4] 3 (0, 0)) := by (with_reducible repeat (first | exact blk_newk rfl | (refine blk_newk ?_; simp; done) | assumption | refine blk_alloc ?_ _ | refine blk_below ?_ hb1 | refine blk_below ?_ d11 | refine blk_below ?_ d10 | refine blk_below ?_ d9 | refine blk_below ?_ d8 | refine blk_below ?_ d7 | refine blk_below ?_ d6 | refine blk_below ?_ d5 | refine blk_below ?_ d4 | refine blk_below ?_ d3 | refine blk_below ?_ d2 | refine blk_below ?_ d1))
  have F21 : w1.heap[e6]? = some (.cells #[.int .i64 4, .int .i64 4] 3 (0, 0)) := by (with_reducible repeat (first | exact blk_newk rfl | (refine blk_newk ?_; simp; done) | assumption | refine blk_alloc ?_ _ | refine blk_below ?_ hb1 | refine blk_below ?_ d11 | refine blk_below ?_ d10 | refine blk_below ?_ d9 | refine blk_below ?_ d8 | refine blk_below ?_ d7 | refine blk_below ?_ d6 | refine blk_below ?_ d5 | refine blk_below ?_ d4 | refine blk_below ?_ d3 | refine blk_below ?_ d2 | refine blk_below ?_ d1))
  have F22 : w1.heap[e7]? = some (.cells #[.int .i64 1, .int .i64 1] 3 (0, 0)) := by (with_reducible repeat (first | exact blk_newk rfl | (refine blk_newk ?_; simp; done) | assumption | refine blk_alloc ?_ _ | refine blk_below ?_ hb1 | refine blk_below ?_ d11 | refine blk_below ?_ d10 | refine blk_below ?_ d9 | refine blk_below ?_ d8 | refine blk_below ?_ d7 | refine blk_below ?_ d6 | refine blk_below ?_ d5 | refine blk_below ?_ d4 | refine blk_below ?_ d3 | refine blk_below ?_ d2 | refine blk_below ?_ d1))
  have F23 : w1.heap[e8]? = some (.cells #[.int .i64 1, .int .i64 1] 3 (0, 0)) := by (with_reducible repeat (first | exact blk_newk rfl | (refine blk_newk ?_; simp; done) | assumption | refine blk_alloc ?_ _ | refine blk_below ?_ hb1 | refine blk_below ?_ d11 | refine blk_below ?_ d10 | refine blk_below ?_ d9 | refine blk_below ?_ d8 | refine blk_below ?_ d7 | refine blk_below ?_ d6 | refine blk_below ?_ d5 | refine blk_below ?_ d4 | refine blk_below ?_ d3 | refine blk_below ?_ d2 | refine blk_below ?_ d1))
  have F24 : w1.heap[e9]? = some (.cells #[.int .i64 1, .int .i64 1] 3 (0, 0)) := by (with_reducible repeat (first | exact blk_newk rfl | (refine blk_newk ?_; simp; done) | assumption | refine blk_alloc ?_ _ | refine blk_below ?_ hb1 | refine blk_below ?_ d11 | refine blk_below ?_ d10 | refine blk_below ?_ d9 | refine blk_below ?_ d8 | refine blk_below ?_ d7 | refine blk_below ?_ d6 | refine blk_below ?_ d5 | refine blk_below ?_ d4 | refine blk_below ?_ d3 | refine blk_below ?_ d2 | refine blk_below ?_ d1))
  have F25 : w1.heap[v9.heap.size]? = some (.cells #[.int .i64 3, .int .i64 2] 3 (0, 0)) := by (with_reducible repeat (first | exact blk_newk rfl | (refine blk_newk ?_; simp; done) | assumption | refine blk_alloc ?_ _ | refine blk_below ?_ hb1 | refine blk_below ?_ d11 | refine blk_below ?_ d10 | refine blk_below ?_ d9 | refine blk_below ?_ d8 | refine blk_below ?_ d7 | refine blk_below ?_ d6 | refine blk_below ?_ d5 | refine blk_below ?_ d4 | refine blk_below ?_ d3 | refine blk_below ?_ d2 | refine blk_below ?_ d1))
  have F26 : w1.heap[e10]? = some (.cells #[.int .i64 2, .int .i64 2] 3 (0, 0)) := by (with_reducible repeat (first | exact blk_newk rfl | (refine blk_newk ?_; simp; done) | assumption | refine blk_alloc ?_ _ | refine blk_below ?_ hb1 | refine blk_below ?_ d11 | refine blk_below ?_ d10 | refine blk_below ?_ d9 | refine blk_below ?_ d8 | refine blk_below ?_ d7 | refine blk_below ?_ d6 | refine blk_below ?_ d5 | refine blk_below ?_ d4 | refine blk_below ?_ d3 | refine blk_below ?_ d2 | refine blk_below ?_ d1))
  have F27 : w1.heap[e11]? = some (.cells #[.int .i64 2, .int .i64 2] 3 (0, 0)) := by (with_reducible repeat (first | exact blk_newk rfl | (refine blk_newk ?_; simp; done) | assumption | refine blk_alloc ?_ _ | refine blk_below ?_ hb1 | refine blk_below ?_ d11 | refine blk_below ?_ d10 | refine blk_below ?_ d9 | refine blk_below ?_ d8 | refine blk_below ?_ d7 | refine blk_below ?_ d6 | refine blk_below ?_ d5 | refine blk_below ?_ d4 | refine blk_below ?_ d3 | refine blk_below ?_ d2 | refine blk_below ?_ d1))
  have F28 : w1.heap[g1]? = some (.cells #[.int .i64 3, .int .i64 3] 3 (0, 0)) := by (with_reducible repeat (first | exact blk_newk rfl | (refine blk_newk ?_; simp; done) | assumption | refine blk_alloc ?_ _ | refine blk_below ?_ hb1 | refine blk_below ?_ d11 | refine blk_below ?_ d10 | refine blk_below ?_ d9 | refine blk_below ?_ d8 | refine blk_below ?_ d7 | refine blk_below ?_ d6 | refine blk_below ?_ d5 | refine blk_below ?_ d4 | refine blk_below ?_ d3 | refine blk_below ?_ d2 | refine blk_below ?_ d1))
  have FT : w1.heap[w.heap.size]? = some (.cells Tryd.zeroCells62 62 (0, 0)) := by (with_reducible repeat (first | exact blk_newk rfl | (refine blk_newk ?_; simp; done) | assumption | refine blk_alloc ?_ _ | refine blk_below ?_ hb1 | refine blk_below ?_ d11 | refine blk_below ?_ d10 | refine blk_below ?_ d9 | refine blk_below ?_ d8 | refine blk_below ?_ d7 | refine blk_below ?_ d6 | refine blk_below ?_ d5 | refine blk_below ?_ d4 | refine blk_below ?_ d3 | refine blk_below ?_ d2 | refine blk_below ?_ d1))
  have HW : Below w.heap.size w w1 ∧ w.heap.size ≤ w1.heap.size := (bnext (bnext (bnext (balloc (bnext (bnext (bnext (bnext (balloc (balloc (balloc (bnext (bnext (bnext (balloc (balloc (bnext (bnext (balloc (bnext ⟨Below.refl _ _, Nat.le_refl _⟩ d0) _) d1) d2) _) _) d3) d4) d5) _) _) _) d6) d7) d8) d9) _) d10) d11) hb1)
  clear d0 d1 d2 d3 d4 d5 d6 d7 d8 d9 d10 d11 hb1 l1 l2 l3 l4 l5 l6 l7 l8 l9 l10 l11 hg1
  refine put_event ?pg (t := 62) (p := .tmp 0) (x := .tmp 49) ?po ?pn (g := w.heap.size) (cur := Tryd.zeroCells62) (seg := tabCells shps [none, none, none, some ⟨v0.heap.size, 0, none⟩, some ⟨e1, 0, none⟩, some ⟨e2, 0, none⟩, some ⟨v2.heap.size, 0, none⟩, none, none, none, some ⟨v2.heap.size + 1, 0, none⟩, some ⟨e3, 0, none⟩, some ⟨e4, 0, none⟩, some ⟨e5, 0, none⟩, none, none, none, none, some ⟨v5.heap.size, 0, none⟩, some ⟨v5.heap.size + 1, 0, none⟩, some ⟨v5.heap.size + 1 + 1, 0, none⟩, some ⟨e6, 0, none⟩, some ⟨e7, 0, none⟩, some ⟨e8, 0, none⟩, some ⟨e9, 0, none⟩, some ⟨v9.heap.size, 0, none⟩, some ⟨e10, 0, none⟩, some ⟨e11, 0, none⟩, some ⟨g1, 0, none⟩]) (u := ?pu) ?pa ?px ?puu FT ?pt ?pf ?p1 ?_
  case pg => rfl
  case po => rfl
  case pn => rfl
  case pa => rfl
  case px => rfl
  case puu => kernel_rfl
  case pt => kernel_rfl
  case pf => kernel_rfl
  case p1 => exact List.all_eq_true.1 (by kernel_rfl)
  intro w2 h2 hmv
  go_wp2
  have hp1 : ∀ q ∈ (tabCells shps [none, none, none, some ⟨v0.heap.size, 0, none⟩, some ⟨e1, 0, none⟩, some ⟨e2, 0, none⟩, some ⟨v2.heap.size, 0, none⟩, none, none, none, some ⟨v2.heap.size + 1, 0, none⟩, some ⟨e3, 0, none⟩, some ⟨e4, 0, none⟩, some ⟨e5, 0, none⟩, none, none, none, none, some ⟨v5.heap.size, 0, none⟩, some ⟨v5.heap.size + 1, 0, none⟩, some ⟨v5.heap.size + 1 + 1, 0, none⟩, some ⟨e6, 0, none⟩, some ⟨e7, 0, none⟩, some ⟨e8, 0, none⟩, some ⟨e9, 0, none⟩, some ⟨v9.heap.size, 0, none⟩, some ⟨e10, 0, none⟩, some ⟨e11, 0, none⟩, some ⟨g1, 0, none⟩]), q.oneCell' = true := List.all_eq_true.1 (by kernel_rfl)
  refine bodyPost_ret (results_cell_row rfl _ _ w.heap.size 62 (tabCells shps [none, none, none, some ⟨v0.heap.size, 0, none⟩, some ⟨e1, 0, none⟩, some ⟨e2, 0, none⟩, some ⟨v2.heap.size, 0, none⟩, none, none, none, some ⟨v2.heap.size + 1, 0, none⟩, some ⟨e3, 0, none⟩, some ⟨e4, 0, none⟩, some ⟨e5, 0, none⟩, none, none, none, none, some ⟨v5.heap.size, 0, none⟩, some ⟨v5.heap.size + 1, 0, none⟩, some ⟨v5.heap.size + 1 + 1, 0, none⟩, some ⟨e6, 0, none⟩, some ⟨e7, 0, none⟩, some ⟨e8, 0, none⟩, some ⟨e9, 0, none⟩, some ⟨v9.heap.size, 0, none⟩, some ⟨e10, 0, none⟩, some ⟨e11, 0, none⟩, some ⟨g1, 0, none⟩]).toArray (0, 0) _ rfl h2 Tryd.underlying62 rfl (by kernel_rfl)) rfl ?_
  refine ⟨_, rfl, rfl, hp1, hmv.below HW.1 HW.2 (Nat.le_refl _), fun W g hb hg => tab_of hg (Kd.C_nil _ _) (Kd.C_nil _ _) (Kd.C_nil _ _) (row_ints (xs := [2]) (by decide) (by decide) (blk_below ((hmv.block _ (blk_lt F3) (blk_ne F3 FT (by decide))).trans F3) hb)) (row_ints (xs := [1, 1]) (by decide) (by decide) (blk_below ((hmv.block _ (blk_lt F4) (blk_ne F4 FT (by decide))).trans F4) hb)) (row_ints (xs := [1, 1]) (by decide) (by decide) (blk_below ((hmv.block _ (blk_lt F5) (blk_ne F5 FT (by decide))).trans F5) hb)) (row_ints (xs := [1]) (by decide) (by decide) (blk_below ((hmv.block _ (blk_lt F6) (blk_ne F6 FT (by decide))).trans F6) hb)) (Kd.C_nil _ _) (Kd.C_nil _ _) (Kd.C_nil _ _) (row_ints (xs := [3]) (by decide) (by decide) (blk_below ((hmv.block _ (blk_lt F10) (blk_ne F10 FT (by decide))).trans F10) hb)) (row_ints (xs := [2, 2]) (by decide) (by decide) (blk_below ((hmv.block _ (blk_lt F11) (blk_ne F11 FT (by decide))).trans F11) hb)) (row_ints (xs := [2, 2]) (by decide) (by decide) (blk_below ((hmv.block _ (blk_lt F12) (blk_ne F12 FT (by decide))).trans F12) hb)) (row_ints (xs := [2, 2]) (by decide) (by decide) (blk_below ((hmv.block _ (blk_lt F13) (blk_ne F13 FT (by decide))).trans F13) hb)) (Kd.C_nil _ _) (Kd.C_nil _ _) (Kd.C_nil _ _) (Kd.C_nil _ _) (row_ints (xs := [4]) (by decide) (by decide) (blk_below ((hmv.block _ (blk_lt F18) (blk_ne F18 FT (by decide))).trans F18) hb)) (row_ints (xs := [4]) (by decide) (by decide) (blk_below ((hmv.block _ (blk_lt F19) (blk_ne F19 FT (by decide))).trans F19) hb)) (row_ints (xs := [4]) (by decide) (by decide) (blk_below ((hmv.block _ (blk_lt F20) (blk_ne F20 FT (by decide))).trans F20) hb)) (row_ints (xs := [4, 4]) (by decide) (by decide) (blk_below ((hmv.block _ (blk_lt F21) (blk_ne F21 FT (by decide))).trans F21) hb)) (row_ints (xs := [1, 1]) (by decide) (by decide) (blk_below ((hmv.block _ (blk_lt F22) (blk_ne F22 FT (by decide))).trans F22) hb)) (row_ints (xs := [1, 1]) (by decide) (by decide) (blk_below ((hmv.block _ (blk_lt F23) (blk_ne F23 FT (by decide))).trans F23) hb)) (row_ints (xs := [1, 1]) (by decide) (by decide) (blk_below ((hmv.block _ (blk_lt F24) (blk_ne F24 FT (by decide))).trans F24) hb)) (row_ints (xs := [3, 2]) (by decide) (by decide) (blk_below ((hmv.block _ (blk_lt F25) (blk_ne F25 FT (by decide))).trans F25) hb)) (row_ints (xs := [2, 2]) (by decide) (by decide) (blk_below ((hmv.block _ (blk_lt F26) (blk_ne F26 FT (by decide))).trans F26) hb)) (row_ints (xs := [2, 2]) (by decide) (by decide) (blk_below ((hmv.block _ (blk_lt F27) (blk_ne F27 FT (by decide))).trans F27) hb)) (row_ints (xs := [3, 3]) (by decide) (by decide) (blk_below ((hmv.block _ (blk_lt F28) (blk_ne F28 FT (by decide))).trans F28) hb))⟩
end Go.Proofs.YthckboogibhjaaaDoor.Trm
end

section
/- term.Sort: a term's sort. -/
namespace Go.Proofs.YthckboogibhjaaaDoor.Trm
set_option linter.unusedVariables false
set_option linter.unusedSimpArgs false
open Go.RowKit Go.Proofs.YthckboogibhjaaaDoorW.PrintWords Go.Proofs.YthckboogibhjaaaDoorW.PrintMore

/-- Too large, or too deep, as Go measures it. -/
def bigT (t : S24) : Bool := decide (2000 < (ofT t 1 (0, 0)).1) || decide (100 < (ofT t 1 (0, 0)).2)

/-- term.Sort. -/
def sortT (t : S24) : Int × Int := if bigT t = true then (0, 7) else if rightT t 0 = true then ((shp t.f0.toNat).sort, 0) else (0, 3)

theorem right_op {t : S24} {want : Int} (h : rightT t want = true) : 1 ≤ t.f0 ∧ t.f0 ≤ 28 := by
  rw [rightT_mk] at h
  by_cases hop : t.f0 < 1 ∨ 28 < t.f0
  · rw [if_pos hop] at h; cases h
  · omega

set_option maxHeartbeats 8000000 in
set_option maxRecDepth 100000 in
theorem Sort_any (t : S24) (A : Option Addr) (c : Nat) (w : World) (hC : Kd.C k24 w A t.f3.length t.f3) (hc : t.f3.length ≤ c) :
    Calls Tryd.prog 22 #[.agg #[.int .i64 t.f0, .string t.f1, .int .i64 t.f2, .slice A t.f3.length c]] w fun e w' => e = .returned (.tuple #[.int .i64 (sortT t).1, .int .i64 (sortT t).2]) ∧ Below w.heap.size w w' := by
  have HC := Lib.hid hC
  clear hC
  have hof := ofT_le t 1 (0, 0) (by decide) (by decide) (by decide)
  have hM : ∀ (W : World), Below w.heap.size w W → w.heap.size + 1 < W.heap.size → Meas W (w.heap.size + 1) (0, 0) → Calls Tryd.prog 37 #[.pointer (some ⟨w.heap.size + 1, 0, none⟩), .agg #[.int .i64 t.f0, .string t.f1, .int .i64 t.f2, .slice A t.f3.length c], .int .i64 1] W fun e w' => e = .returned (.tuple #[]) ∧ Mv (w.heap.size + 1) W w' ∧ Meas w' (w.heap.size + 1) (ofT t 1 (0, 0)) := by
    intro W b1 b2 b3
    exact of_any (tsize t) t (Nat.le_refl _) A c 1 (0, 0) (w.heap.size + 1) w W HC.out hc b1 (by omega) b2 b3 (by decide) (by decide) (by decide)
  have HM := Lib.hid hM
  clear hM
  go_enter Tryd.func22, Tryd.ntmps22
  go_wp2_with (first | (go_at_call 37; refine (HM.out _ ?b1 ?b2 ?b3).mono ?_; (case b1 => exact (by repeat (first | exact Below.refl _ _ | with_reducible assumption | refine Below.alloc ?_ (by first | exact Nat.le_refl _ | (simp; done) | (simp; omega) | omega) _ | refine Below.setCell ?_ (by first | exact Nat.le_refl _ | (simp; done) | (simp; omega) | omega) _ | refine Below.drew ?_ | refine bdrewN ?_ _))); (case b2 => simp); (case b3 => exact ⟨by simp [go_sem], by simp [go_sem], by simp [go_sem], by simp [go_sem]⟩); rintro e w1 ⟨rfl, hv, hm⟩; have HV := Lib.hid hv; have HMM := Lib.hid hm; have q1 := hm.s; have q2 := hm.d; have k0 : w1.heap[w.heap.size]? = some (.cells #[.int .i64 t.f0, .string t.f1, .int .i64 t.f2, .slice A t.f3.length c] 24 (0, 0)) := (hv.block _ (by simp; omega) (by omega)).trans (blk_alloc (blk_new _ _) _); have KK0 := Lib.hid k0; clear hv hm k0) | (go_at_call 38; refine (shapes_any _).mono ?_; rintro e w2 ⟨cells, rfl, hsz, hone, hb2, htab⟩; have HS := Lib.hid hsz; have HON := Lib.hid hone; have HB2 := Lib.hid hb2; have HTB := Lib.hid htab; clear hsz hone hb2 htab) | ((with_reducible refine gate_dst (N := 5) rfl ?_); refine box_event ?hg (N := 5) ?hd (cs := Tryd.zeroCells62) (t := 62) ?hr ?_; (case hd => rfl); (case hg => rfl); (case hr => first | (go_simp; done) | (go_simp; rfl)); intro gl hgl w3 hl hb3; have HGL := Lib.hid hgl; clear hgl; have HL := Lib.hid hl; have HB3 := Lib.hid hb3; clear hl hb3) | ((with_reducible refine gate_store (t := 62) (p := 5) rfl ?_); refine Hid.out ?_))
  · rename_i hs
    refine bodyPost_ret (v := .tuple #[.int .i64 0, .int .i64 7]) (by simp [results, Tryd.results22, go_sem]) rfl ⟨?_, HV.out.below (by repeat (first | exact Below.refl _ _ | with_reducible assumption | refine Below.alloc ?_ (by first | exact Nat.le_refl _ | (simp; done) | (simp; omega) | omega) _ | refine Below.setCell ?_ (by first | exact Nat.le_refl _ | (simp; done) | (simp; omega) | omega) _ | refine Below.drew ?_ | refine bdrewN ?_ _)) (by simp; omega) (by omega)⟩
    have : bigT t = true := by unfold bigT; simp; omega
    unfold sortT; rw [if_pos this]
  · refine Lib.hid ?_
    have hnb : bigT t = false := by unfold bigT; simp; omega
    have hsort : sortT t = if rightT t 0 = true then ((shp t.f0.toNat).sort, 0) else (0, 3) := by unfold sortT; rw [hnb, if_neg (by decide)]
    have HSORT := Lib.hid hsort
    clear hsort hnb
    refine put_event ?pg (t := 62) (p := .tmp 5) (x := .tmp 23) ?po ?pn (g := gl) (cur := Tryd.zeroCells62) (seg := cells.toList) (u := .agg cells) ?pa ?px ?puu HL.out ?pt ?pf ?p1 ?_
    case pg => rfl
    case po => rfl
    case pn => rfl
    case pa => rfl
    case px => rfl
    case puu => rfl
    case pt => rw [Array.length_toList, HS.out]; kernel_rfl
    case pf => rw [Array.length_toList, HS.out]; kernel_rfl
    case p1 => exact HON.out
    intro w4 h4 hmv
    have h4' : w4.heap[gl]? = some (.cells cells 62 (0, 0)) := by rw [h4, Array.toArray_toList]
    have hb1 : Below w.heap.size w w1 := HV.out.below (by repeat (first | exact Below.refl _ _ | with_reducible assumption | refine Below.alloc ?_ (by first | exact Nat.le_refl _ | (simp; done) | (simp; omega) | omega) _ | refine Below.setCell ?_ (by first | exact Nat.le_refl _ | (simp; done) | (simp; omega) | omega) _ | refine Below.drew ?_ | refine bdrewN ?_ _)) (by simp; omega) (by omega)
    have hb24 : Below w2.heap.size w2 w4 := hmv.below HB3.out HB3.out.size (Nat.le_of_eq HGL.out.symm)
    have hb4 : Below w.heap.size w w4 := (hb1.trans (HB2.out.mono hb1.size)).trans (hb24.mono (Nat.le_trans hb1.size HB2.out.size))
    have k4 := blk_below (blk_below KK0.out HB2.out) hb24
    have tab : TabAt w4 gl := HTB.out w4 gl hb24 h4'
    have hR := right_any (tsize t) t (Nat.le_refl _) A c gl 0 w4 w4 (Kd.C_below HC.out hb4) hc (Below.refl _ _) tab
    have TB := Lib.hid tab
    have K4 := Lib.hid k4
    have HB4 := Lib.hid hb4
    clear h4 h4' hmv hb1 hb24 tab k4 hb4 q1 q2 HV HMM KK0 HS HON HB2 HTB HL HGL HB3
    cases hr : rightT t 0 with
    | false =>
      have c0 := (blk_cell K4.out 0).trans rfl
      have c1 := (blk_cell K4.out 1).trans rfl
      have c2 := (blk_cell K4.out 2).trans rfl
      have c3 := (blk_cell K4.out 3).trans rfl
      rw [hr] at hR
      have HR := Lib.hid hR
      clear hR
      go_wp2_with (go_at_call 39; refine HR.out.mono ?_; rintro e w5 ⟨rfl, hb5⟩)
      refine bodyPost_ret (v := .tuple #[.int .i64 0, .int .i64 3]) (by simp [results, Tryd.results22, go_sem]) rfl ⟨?_, HB4.out.trans (hb5.mono HB4.out.size)⟩
      rw [HSORT.out, hr]; rfl
    | true =>
      obtain ⟨o1, o2⟩ := right_op hr
      obtain ⟨i, hi⟩ : ∃ i : Nat, t.f0 = i := Int.eq_ofNat_of_zero_le (by omega)
      have hi29 : i < 29 := by omega
      have h29 : ((i : Int) < 29) = True := eq_true (by omega)
      obtain ⟨As, y0, -, -, -, -, -⟩ := TB.out i hi29
      have k4 := K4.out
      rw [hi] at hR k4
      have K5 := Lib.hid k4
      have c0 := (blk_cell k4 0).trans rfl
      have c1 := (blk_cell k4 1).trans rfl
      have c2 := (blk_cell k4 2).trans rfl
      have c3 := (blk_cell k4 3).trans rfl
      rw [hr] at hR
      have HR := Lib.hid hR
      have hso := HSORT.out
      rw [hr, if_pos rfl, hi, Int.toNat_natCast] at hso
      have HSO := Lib.hid hso
      clear hR hso k4 HSORT
      generalize (shp i).sort = so at *
      have Y0 := Lib.hid y0
      go_wp2_with (go_at_call 39; refine HR.out.mono ?_; rintro e w5 ⟨rfl, hb5⟩; have y0' := kcell hb5 Y0.out; have c0' := (blk_cell (blk_below K5.out hb5) 0).trans rfl)
      refine bodyPost_ret (v := .tuple #[.int .i64 so, .int .i64 0]) (by simp [results, Tryd.results22, go_sem]) rfl ⟨?_, HB4.out.trans (hb5.mono HB4.out.size)⟩
      rw [HSO.out]
  · rename_i hs
    refine bodyPost_ret (v := .tuple #[.int .i64 0, .int .i64 7]) (by simp [results, Tryd.results22, go_sem]) rfl ⟨?_, HV.out.below (by repeat (first | exact Below.refl _ _ | with_reducible assumption | refine Below.alloc ?_ (by first | exact Nat.le_refl _ | (simp; done) | (simp; omega) | omega) _ | refine Below.setCell ?_ (by first | exact Nat.le_refl _ | (simp; done) | (simp; omega) | omega) _ | refine Below.drew ?_ | refine bdrewN ?_ _)) (by simp; omega) (by omega)⟩
    have : bigT t = true := by unfold bigT; simp; omega
    unfold sortT; rw [if_pos this]
end Go.Proofs.YthckboogibhjaaaDoor.Trm
end

section
/- Plain law: Go's measure tells whether a term is too large or too deep. -/
namespace Go.Proofs.YthckboogibhjaaaDoor.Trm
set_option linter.unusedVariables false
set_option linter.unusedSimpArgs false
open Go.RowKit Go.Proofs.YthckboogibhjaaaDoorW.PrintWords

mutual
theorem ofT_up : ∀ (t : S24) (d : Nat) (st : Nat × Nat), st.1 ≤ (ofT t d st).1 ∧ st.2 ≤ (ofT t d st).2 ∧ d ≤ (ofT t d st).2
  | ⟨_, _, _, l⟩, d, st => by
    rw [ofT]
    have := ofL_up l d (st.1 + 1, max st.2 d)
    simp only at this
    omega
theorem ofL_up : ∀ (l : List S24) (d : Nat) (st : Nat × Nat), st.1 ≤ (ofL l d st).1 ∧ st.2 ≤ (ofL l d st).2
  | [], d, st => by rw [ofL]; exact ⟨Nat.le_refl _, Nat.le_refl _⟩
  | x :: l, d, st => by
    rw [ofL]
    by_cases hc : 2000 < st.1 ∨ 100 < d
    · rw [if_pos hc]; exact ⟨Nat.le_refl _, Nat.le_refl _⟩
    · rw [if_neg hc]
      have a := ofT_up x (d + 1) st
      have b := ofL_up l d (ofT x (d + 1) st)
      omega
end

/-- Too large, or too deep. -/
def big (st : Nat × Nat) : Prop := 2000 < st.1 ∨ 100 < st.2

mutual
theorem ofT_is : ∀ (t : S24) (d : Nat) (st : Nat × Nat), 1 ≤ d → (st.1 + tsize t ≤ 2000 ∧ d + tdeep t ≤ 101 ∧ ofT t d st = (st.1 + tsize t, max st.2 (d + tdeep t - 1))) ∨ ((2000 < st.1 + tsize t ∨ 101 < d + tdeep t) ∧ big (ofT t d st))
  | ⟨_, _, _, l⟩, d, st, hd => by
    rw [ofT, tsize, tdeep]
    rcases ofL_is l d (st.1 + 1, max st.2 d) hd (by show d ≤ max st.2 d; omega) with ⟨h1, h2, h3⟩ | ⟨h1, h2⟩
    · refine .inl ⟨by simp only at h1; omega, by omega, ?_⟩
      rw [h3]
      simp only [Prod.mk.injEq]
      omega
    · refine .inr ⟨?_, h2⟩
      simp only at h1; omega
theorem ofL_is : ∀ (l : List S24) (d : Nat) (st : Nat × Nat), 1 ≤ d → d ≤ st.2 → (st.1 + lsize l ≤ 2000 ∧ d + ldeep l ≤ 100 ∧ ofL l d st = (st.1 + lsize l, max st.2 (d + ldeep l))) ∨ ((2000 < st.1 + lsize l ∨ 100 < d + ldeep l) ∧ big (ofL l d st))
  | [], d, st, hd, h2 => by
    rw [ofL, lsize, ldeep]
    by_cases hb : big st
    · by_cases hc : st.1 ≤ 2000 ∧ d ≤ 100
      · refine .inl ⟨by omega, by omega, ?_⟩
        rw [show max st.2 (d + 0) = st.2 by omega]; rfl
      · exact .inr ⟨by omega, hb⟩
    · unfold big at hb
      refine .inl ⟨by omega, by omega, ?_⟩
      rw [show max st.2 (d + 0) = st.2 by omega]; rfl
  | x :: l, d, st, hd, h2 => by
    rw [ofL, lsize, ldeep]
    have hx1 : 1 ≤ tsize x := by rw [tsize_mk]; omega
    have hx2 : 1 ≤ tdeep x := by rw [tdeep_mk]; omega
    by_cases hc : 2000 < st.1 ∨ 100 < d
    · rw [if_pos hc]
      exact .inr ⟨by omega, by unfold big; omega⟩
    · rw [if_neg hc]
      have up := ofL_up l d (ofT x (d + 1) st)
      have upx := ofT_up x (d + 1) st
      rcases ofT_is x (d + 1) st (by omega) with ⟨a1, a2, a3⟩ | ⟨a1, a2⟩
      · rcases ofL_is l d (ofT x (d + 1) st) hd (by omega) with ⟨b1, b2, b3⟩ | ⟨b1, b2⟩
        · rw [a3] at b1 b3 ⊢
          simp only at b1
          refine .inl ⟨by omega, by omega, ?_⟩
          rw [b3]
          simp only [Prod.mk.injEq]
          omega
        · refine .inr ⟨?_, b2⟩
          rw [a3] at b1
          simp only at b1
          omega
      · refine .inr ⟨by omega, ?_⟩
        unfold big at a2 ⊢
        omega
end

theorem bigT_is (t : S24) : bigT t = (decide (2000 < tsize t) || decide (100 < tdeep t)) := by
  rw [Bool.eq_iff_iff]
  unfold bigT
  simp only [Bool.or_eq_true, decide_eq_true_eq]
  rcases ofT_is t 1 (0, 0) (Nat.le_refl _) with ⟨h1, h2, h3⟩ | ⟨h1, h2⟩
  · rw [h3]
    simp only at h1 ⊢
    omega
  · unfold big at h2
    simp only at h1
    constructor
    · intro _; omega
    · intro _; exact h2
end Go.Proofs.YthckboogibhjaaaDoor.Trm
end

section
/- term.deep, term.Deep: how deep a term goes, at most so much. -/
namespace Go.Proofs.YthckboogibhjaaaDoor.Trm
set_option linter.unusedVariables false
set_option linter.unusedSimpArgs false
open Go.RowKit Go.Proofs.YthckboogibhjaaaDoorW.PrintWords Go.Proofs.YthckboogibhjaaaDoorW.PrintMore

mutual
/-- term.deep. -/
def deepT : S24 → Nat → Nat
  | ⟨_, _, _, l⟩, m => deepL l (m - 1) 0 + 1
def deepL : List S24 → Nat → Nat → Nat
  | [], _, n => n
  | x :: l, m, n => if n = m then n else deepL l m (max n (deepT x m))
end
theorem deepT_mk (t : S24) (m : Nat) : deepT t m = deepL t.f3 (m - 1) 0 + 1 := by cases t; rw [deepT]
mutual
theorem deepT_le : ∀ (t : S24) (m : Nat), 1 ≤ m → deepT t m ≤ m
  | ⟨_, _, _, l⟩, m, h => by
    rw [deepT]
    have := deepL_le l (m - 1) 0 (Nat.zero_le _)
    omega
theorem deepL_le : ∀ (l : List S24) (m n : Nat), n ≤ m → deepL l m n ≤ m
  | [], m, n, h => by rw [deepL]; exact h
  | x :: l, m, n, h => by
    rw [deepL]
    by_cases e : n = m
    · rw [if_pos e]; exact h
    · rw [if_neg e]
      have := deepT_le x m (by omega)
      exact deepL_le l m _ (by omega)
end
mutual
/-- It is the depth, cut off. -/
theorem deepT_min : ∀ (t : S24) (m : Nat), 1 ≤ m → deepT t m = min (tdeep t) m
  | ⟨_, _, _, l⟩, m, h => by
    rw [deepT, tdeep, deepL_min l (m - 1) 0 (Nat.zero_le _)]; omega
theorem deepL_min : ∀ (l : List S24) (m n : Nat), n ≤ m → deepL l m n = min (max n (ldeep l)) m
  | [], m, n, h => by rw [deepL, ldeep]; omega
  | x :: l, m, n, h => by
    rw [deepL, ldeep]
    by_cases e : n = m
    · rw [if_pos e]; omega
    · rw [if_neg e, deepT_min x m (by omega), deepL_min l m _ (by omega)]; omega
end

set_option maxHeartbeats 4000000 in
set_option maxRecDepth 100000 in
theorem deep_any : ∀ (n : Nat) (t : S24), tsize t ≤ n → ∀ (A : Option Addr) (c : Nat) (k : Nat) (w0 w : World),
    Kd.C k24 w0 A t.f3.length t.f3 → t.f3.length ≤ c → Below w0.heap.size w0 w → k ≤ 100 →
    Calls Tryd.prog 57 #[.agg #[.int .i64 t.f0, .string t.f1, .int .i64 t.f2, .slice A t.f3.length c], .int .i64 ((k : Int) + 1)] w fun e w' => e = .returned (.int .i64 (deepT t (k + 1))) ∧ Below w.heap.size w w' := by
  intro n
  induction n with
  | zero => intro t ht; rw [tsize_mk] at ht; omega
  | succ n ih =>
    intro t ht A c k w0 w hC hc hB hk
    have HC := Lib.hid hC
    have HB := Lib.hid hB
    have hD := deepT_mk t (k + 1)
    rw [Nat.add_sub_cancel] at hD
    have HD := Lib.hid hD
    have HIH := Lib.hid ih
    clear hC hB hD ih
    go_enter Tryd.func57, Tryd.ntmps57
    go_wp2
    go_loopw [5, 11] (fun v5 v11 wr => ∃ j nn : Nat, j ≤ t.f3.length ∧ v5 = .int .i64 nn ∧ v11 = .int .i64 j ∧ deepL (t.f3.drop j) k nn = deepL t.f3 k 0 ∧ nn ≤ k ∧ Below w.heap.size w wr) (fun _ v11 _ => t.f3.length - (intOf v11).toNat)
    case atStart => exact ⟨0, 0, Nat.zero_le _, rfl, rfl, by rw [List.drop_zero], Nat.zero_le _, (by repeat (first | exact Below.refl _ _ | with_reducible assumption | refine Below.alloc ?_ (by first | exact Nat.le_refl _ | (simp; done) | (simp; omega) | omega) _ | refine Below.setCell ?_ (by first | exact Nat.le_refl _ | (simp; done) | (simp; omega) | omega) _ | refine Below.drew ?_ | refine bdrewN ?_ _))⟩
    case round =>
      obtain ⟨j, nn, hj, rfl, rfl, hL, hn, hbr⟩ := hrel
      by_cases hjl : j < t.f3.length
      · have hmax := Kd.C_max HC.out
        obtain ⟨ad, A', c', e, x0, x1, x2, x3, l', C'⟩ := at_T24 HC.out (j : Int) (by omega) (by omega)
        have hbw : Below w0.heap.size w0 wr := HB.out.trans (hbr.mono HB.out.size)
        have hd : t.f3.drop j = rd_T24 t.f3 (j : Int) :: t.f3.drop (j + 1) := by
          rw [List.drop_eq_getElem_cons hjl]; simp [rd_T24, List.getElem?_eq_getElem hjl]
        have hmem : rd_T24 t.f3 (j : Int) ∈ t.f3 := by
          have : rd_T24 t.f3 (j : Int) = t.f3[j] := by simp [rd_T24, List.getElem?_eq_getElem hjl]
          rw [this]; exact List.getElem_mem hjl
        have hts := lsize_mem hmem
        rw [tsize_mk] at ht
        rw [hd, deepL] at hL
        generalize rd_T24 t.f3 (j : Int) = x at *
        replace x0 := (hbw.cell (World.block_lt_of_cell? w0 _ x0)).trans x0
        replace x1 := (hbw.cell (World.block_lt_of_cell? w0 _ x1)).trans x1
        replace x2 := (hbw.cell (World.block_lt_of_cell? w0 _ x2)).trans x2
        replace x3 := (hbw.cell (World.block_lt_of_cell? w0 _ x3)).trans x3
        rw [Int.toNat_natCast] at x0 x1 x2 x3
        subst e
        have hj9 : j + 1 < 9223372036854775808 := by omega
        have ew := wrapj hj9
        have hxn : tsize x ≤ n := by omega
        have EW := Lib.hid ew
        have HBR := Lib.hid hbr
        have HBW := Lib.hid hbw
        have HCx := Lib.hid C'
        have HMX := Lib.hid hmax
        clear hbr hbw C' hd hmax ew
        by_cases hnk : nn = k
        · subst hnk
          rw [if_pos rfl] at hL
          have HL := Lib.hid hL
          clear hL
          go_wp2
          refine bodyPost_ret (v := .int .i64 ((nn : Int) + 1)) (by simp [results, Tryd.results57, go_sem]) rfl ⟨?_, HBR.out.alloc HBR.out.size _⟩
          rw [HD.out, ← HL.out]; rfl
        · rw [if_neg hnk] at hL
          have HL := Lib.hid hL
          clear hL
          obtain ⟨k', rfl⟩ : ∃ k', k = k' + 1 := ⟨k - 1, by omega⟩
          have hne : ((nn : Int) = (k' : Int) + 1) = False := eq_false (by omega)
          have hdl := deepT_le x (k' + 1) (by omega)
          have IH : ∀ W : World, Below w0.heap.size w0 W → Calls Tryd.prog 57 #[.agg #[.int .i64 x.f0, .string x.f1, .int .i64 x.f2, .slice A' x.f3.length c'], .int .i64 ((k' : Int) + 1)] W fun e w' => e = .returned (.int .i64 (deepT x (k' + 1))) ∧ Below W.heap.size W w' := fun W hb => HIH.out x hxn A' c' k' w0 W HCx.out l' hb (by omega)
          have HI := Lib.hid IH
          clear IH HIH
          go_wp2_with (go_at_call 57; refine (HI.out _ ?b1).mono ?_; (case b1 => exact HBW.out.alloc HBW.out.size _); rintro e w5 ⟨rfl, hb5⟩)
          have HB5 := Lib.hid (HBR.out.trans (((Below.refl _ _).alloc (Nat.le_refl _) _ |>.trans (hb5.mono (by simp))).mono HBR.out.size))
          all_goals
            refine ⟨?_, ?_⟩
            · refine ⟨_, _, _, _, _, _, _, _, _, _, _, _, _, _, _, _, _, ?_, rfl⟩
              exact ⟨j + 1, max nn (deepT x (k' + 1)), hjl, by first | rfl | (congr 1; omega), by first | rfl | rw [EW.out], HL.out, by omega, HB5.out⟩
            · first
              | exact Nat.sub_lt_sub_left hjl (Nat.lt_succ_self _)
              | (simp only [EW.out, List.getD_toArray, List.getD_cons_succ, List.getD_cons_zero, intOf, Int.toNat_natCast]; exact Nat.sub_lt_sub_left hjl (Nat.lt_succ_self _))
      · have hjj : j = t.f3.length := by omega
        subst hjj
        rw [List.drop_length, deepL] at hL
        go_wp2
        refine bodyPost_ret (v := .int .i64 ((deepL t.f3 k 0 : Int) + 1)) (by simp [results, Tryd.results57, go_sem]) rfl ⟨?_, hbr⟩
        rw [HD.out]; rfl

theorem Deep_any (t : S24) (A : Option Addr) (c : Nat) (w : World) (hC : Kd.C k24 w A t.f3.length t.f3) (hc : t.f3.length ≤ c) :
    Calls Tryd.prog 52 #[.agg #[.int .i64 t.f0, .string t.f1, .int .i64 t.f2, .slice A t.f3.length c]] w fun e w' => e = .returned (.int .i64 (deepT t 101)) ∧ Below w.heap.size w w' := by
  have hD := deep_any (tsize t) t (Nat.le_refl _) A c 100 w
  have HD := Lib.hid hD
  have HC := Lib.hid hC
  clear hD hC
  go_enter Tryd.func52, Tryd.ntmps52
  go_wp2_with (go_at_call 57; refine (HD.out _ HC.out hc ?b1 (by decide)).mono ?_; (case b1 => exact (by repeat (first | exact Below.refl _ _ | with_reducible assumption | refine Below.alloc ?_ (by first | exact Nat.le_refl _ | (simp; done) | (simp; omega) | omega) _ | refine Below.setCell ?_ (by first | exact Nat.le_refl _ | (simp; done) | (simp; omega) | omega) _ | refine Below.drew ?_ | refine bdrewN ?_ _))); rintro e w1 ⟨rfl, hb1⟩)
  exact bodyPost_ret (v := .int .i64 (deepT t 101)) (by simp [results, Tryd.results52, go_sem]) rfl ⟨rfl, by first | exact hb1 | (refine Below.trans ?_ (hb1.mono (by first | exact Nat.le_refl _ | (simp; done) | (simp; omega) | omega)); exact (by repeat (first | exact Below.refl _ _ | with_reducible assumption | refine Below.alloc ?_ (by first | exact Nat.le_refl _ | (simp; done) | (simp; omega) | omega) _ | refine Below.setCell ?_ (by first | exact Nat.le_refl _ | (simp; done) | (simp; omega) | omega) _ | refine Below.drew ?_ | refine bdrewN ?_ _)))⟩
end Go.Proofs.YthckboogibhjaaaDoor.Trm
end

section
/- term.same, term.Same, slices.EqualFunc over term.same. -/
namespace Go.Proofs.YthckboogibhjaaaDoor.Trm
set_option linter.unusedVariables false
set_option linter.unusedSimpArgs false
open Go.RowKit Go.Proofs.YthckboogibhjaaaDoorW.PrintWords Go.Proofs.YthckboogibhjaaaDoorW.PrintMore

mutual
/-- term.same. -/
def sameT : S24 → S24 → Bool
  | ⟨op, nm, n, l⟩, u => decide (op = u.f0) && decide (nm.toList = u.f1.toList) && decide (n = u.f2) && sameL l u.f3
def sameL : List S24 → List S24 → Bool
  | [], [] => true
  | x :: l, y :: m => sameT x y && sameL l m
  | [], _ :: _ => false
  | _ :: _, [] => false
end
theorem sameT_mk (t u : S24) : sameT t u = (decide (t.f0 = u.f0) && decide (t.f1.toList = u.f1.toList) && decide (t.f2 = u.f2) && sameL t.f3 u.f3) := by cases t; rw [sameT]
theorem sameL_len : ∀ {l m : List S24}, l.length ≠ m.length → sameL l m = false
  | [], [], h => absurd rfl h
  | [], _ :: _, _ => by rw [sameL]
  | _ :: _, [], _ => by rw [sameL]
  | x :: l, y :: m, h => by rw [sameL, sameL_len (by simpa using h), Bool.and_false]

/-- An element of a row of terms. -/
theorem el_T {W : World} {A : Option Addr} {l : List S24} (hC : Kd.C k24 W A l.length l) {j : Nat} (h : j < l.length) :
    ∃ ad A' c', A = some ad ∧ W.cell? (ad.add (j * 4)) = some (.int .i64 l[j].f0) ∧ W.cell? ⟨(ad.add (j * 4)).block, (ad.add (j * 4)).off + 1, none⟩ = some (.string l[j].f1) ∧ W.cell? ⟨(ad.add (j * 4)).block, (ad.add (j * 4)).off + 2, none⟩ = some (.int .i64 l[j].f2) ∧ W.cell? ⟨(ad.add (j * 4)).block, (ad.add (j * 4)).off + 3, none⟩ = some (.slice A' l[j].f3.length c') ∧ l[j].f3.length ≤ c' ∧ Kd.C k24 W A' l[j].f3.length l[j].f3 := by
  have := at_T24 hC (j : Int) (by omega) (by omega)
  have e : rd_T24 l (j : Int) = l[j] := by simp [rd_T24, List.getElem?_eq_getElem h]
  rw [e, Int.toNat_natCast] at this
  exact this

theorem below_two {w wr w5 : World} (h : Below w.heap.size w wr) (o1 o2 : Obj) (hb : Below ((wr.alloc o1).alloc o2).heap.size ((wr.alloc o1).alloc o2) w5) : Below w.heap.size w w5 := by
  have hs := h.size
  have h2 := (h.alloc hs o1).alloc (by simp; omega) o2
  exact h2.trans (hb.mono h2.size)

set_option maxHeartbeats 8000000 in
set_option maxRecDepth 100000 in
theorem eq_any (l m : List S24) (A1 A2 : Option Addr) (c1 c2 : Nat) (w0 w : World) (C1 : Kd.C k24 w0 A1 l.length l) (hc1 : l.length ≤ c1) (C2 : Kd.C k24 w0 A2 m.length m) (hc2 : m.length ≤ c2) (hB : Below w0.heap.size w0 w)
    (H : ∀ x, x ∈ l → ∀ (y : S24) (A A' : Option Addr) (c c' : Nat) (W : World), Kd.C k24 w0 A x.f3.length x.f3 → x.f3.length ≤ c → Kd.C k24 w0 A' y.f3.length y.f3 → y.f3.length ≤ c' → Below w0.heap.size w0 W →
      Calls Tryd.prog 53 #[.agg #[.int .i64 x.f0, .string x.f1, .int .i64 x.f2, .slice A x.f3.length c], .agg #[.int .i64 y.f0, .string y.f1, .int .i64 y.f2, .slice A' y.f3.length c']] W fun e w' => e = .returned (.bool (sameT x y)) ∧ Below W.heap.size W w') :
    Calls Tryd.prog 58 #[.slice A1 l.length c1, .slice A2 m.length c2, .func (.func 53) #[] #[]] w fun e w' => e = .returned (.bool (sameL l m)) ∧ Below w.heap.size w w' := by
  have HC1 := Lib.hid C1
  have HC2 := Lib.hid C2
  have HB := Lib.hid hB
  have HH := Lib.hid H
  clear C1 C2 hB H
  by_cases hlen : l.length = m.length
  · have hl : ((l.length : Int) != (m.length : Int)) = false := by simp [hlen]
    have HLEN := Lib.hid hlen
    clear hlen
    go_enter Tryd.func58, Tryd.ntmps58
    go_wp2
    all_goals (try (exfalso; omega))
    go_loopw [17] (fun v wr => ∃ j : Nat, j ≤ l.length ∧ v = .int .i64 j ∧ sameL l m = sameL (l.drop j) (m.drop j) ∧ Below w.heap.size w wr) (fun v _ => l.length - (intOf v).toNat)
    case atStart => exact ⟨0, Nat.zero_le _, rfl, by rw [List.drop_zero, List.drop_zero], Below.refl _ _⟩
    case round =>
      obtain ⟨j, hj, rfl, hL, hbr⟩ := hrel
      by_cases hjl : j < l.length
      · have hmax := Kd.C_max HC1.out
        have hjm : j < m.length := HLEN.out ▸ hjl
        obtain ⟨ad, A', c', e, x0, x1, x2, x3, l', C'⟩ := el_T HC1.out hjl
        obtain ⟨bd, B', d', e2, y0, y1, y2, y3, m', D'⟩ := el_T HC2.out hjm
        have hbw : Below w0.heap.size w0 wr := HB.out.trans (hbr.mono HB.out.size)
        rw [List.drop_eq_getElem_cons hjl, List.drop_eq_getElem_cons hjm, sameL] at hL
        have hmem : l[j] ∈ l := List.getElem_mem hjl
        have HX := Lib.hid (HH.out l[j] hmem m[j])
        generalize l[j] = x at *
        generalize m[j] = y at *
        have ycell : ∀ o, (wr.alloc o).cell? (bd.add (j * 4)) = some (.int .i64 y.f0) ∧ (wr.alloc o).cell? ⟨(bd.add (j * 4)).block, (bd.add (j * 4)).off + 1, none⟩ = some (.string y.f1) ∧ (wr.alloc o).cell? ⟨(bd.add (j * 4)).block, (bd.add (j * 4)).off + 2, none⟩ = some (.int .i64 y.f2) ∧ (wr.alloc o).cell? ⟨(bd.add (j * 4)).block, (bd.add (j * 4)).off + 3, none⟩ = some (.slice B' y.f3.length d') := by
          intro o
          have hbo : Below w0.heap.size w0 (wr.alloc o) := hbw.alloc hbw.size o
          exact ⟨(hbo.cell (World.block_lt_of_cell? w0 _ y0)).trans y0, (hbo.cell (World.block_lt_of_cell? w0 _ y1)).trans y1, (hbo.cell (World.block_lt_of_cell? w0 _ y2)).trans y2, (hbo.cell (World.block_lt_of_cell? w0 _ y3)).trans y3⟩
        replace x0 := (hbw.cell (World.block_lt_of_cell? w0 _ x0)).trans x0
        replace x1 := (hbw.cell (World.block_lt_of_cell? w0 _ x1)).trans x1
        replace x2 := (hbw.cell (World.block_lt_of_cell? w0 _ x2)).trans x2
        replace x3 := (hbw.cell (World.block_lt_of_cell? w0 _ x3)).trans x3
        have zy := World.block_lt_of_cell? w0 _ y0
        have zw : (bd.add (j * 4)).block < wr.heap.size := Nat.lt_of_lt_of_le zy hbw.size
        replace y0 := (hbw.cell (World.block_lt_of_cell? w0 _ y0)).trans y0
        replace y1 := (hbw.cell (World.block_lt_of_cell? w0 _ y1)).trans y1
        replace y2 := (hbw.cell (World.block_lt_of_cell? w0 _ y2)).trans y2
        replace y3 := (hbw.cell (World.block_lt_of_cell? w0 _ y3)).trans y3
        subst e e2
        have pj : ((j : Int) < (m.length : Int)) = True := eq_true (by omega)
        have hj9 : j + 1 < 9223372036854775808 := by clear pj hl HLEN; omega
        have EW := Lib.hid (wrapj hj9)
        have HL := Lib.hid hL
        have HBR := Lib.hid hbr
        have HBW := Lib.hid hbw
        have YC := Lib.hid ycell
        have HCx := Lib.hid C'
        have HDy := Lib.hid D'
        clear hL hbr hbw ycell C' D' hmax
        cases hxy : sameT x y with
        | false =>
          go_wp2_with (go_at_call 53; refine (HX.out _ _ _ _ _ HCx.out l' HDy.out m' ?b1).mono ?_; (case b1 => exact (HBW.out.alloc HBW.out.size _).alloc (by have := HBW.out.size; simp; omega) _); rw [hxy]; rintro e w5 ⟨rfl, hb5⟩; have HB5 := Lib.hid (below_two HBR.out _ _ hb5); clear hb5)
          exact bodyPost_ret (v := .bool false) (by simp [results, Tryd.results58, go_sem]) rfl ⟨by rw [HL.out, hxy, Bool.false_and], HB5.out⟩
        | true =>
          go_wp2_with (go_at_call 53; refine (HX.out _ _ _ _ _ HCx.out l' HDy.out m' ?b1).mono ?_; (case b1 => exact (HBW.out.alloc HBW.out.size _).alloc (by have := HBW.out.size; simp; omega) _); rw [hxy]; rintro e w5 ⟨rfl, hb5⟩; have HB5 := Lib.hid (below_two HBR.out _ _ hb5); clear hb5)
          have HL2 := HL.out
          rw [hxy, Bool.true_and] at HL2
          refine ⟨⟨j + 1, hjl, by first | rfl | rw [EW.out], HL2, HB5.out⟩, ?_⟩
          first
          | exact Nat.sub_lt_sub_left hjl (Nat.lt_succ_self _)
          | (simp only [EW.out, intOf, Int.toNat_natCast]; exact Nat.sub_lt_sub_left hjl (Nat.lt_succ_self _))
      · have hjj : j = l.length := by omega
        subst hjj
        rw [List.drop_length, HLEN.out, List.drop_length, sameL] at hL
        go_wp2
        exact bodyPost_ret (v := .bool true) (by simp [results, Tryd.results58, go_sem]) rfl ⟨by rw [hL], hbr⟩
  · have hs := sameL_len hlen
    rw [hs]
    go_enter Tryd.func58, Tryd.ntmps58
    go_wp2
    all_goals (try (exfalso; omega))
    exact bodyPost_ret (v := .bool false) (by simp [results, Tryd.results58, go_sem]) rfl ⟨rfl, (by repeat (first | exact Below.refl _ _ | with_reducible assumption | refine Below.alloc ?_ (by first | exact Nat.le_refl _ | (simp; done) | (simp; omega) | omega) _ | refine Below.setCell ?_ (by first | exact Nat.le_refl _ | (simp; done) | (simp; omega) | omega) _ | refine Below.drew ?_ | refine bdrewN ?_ _))⟩

set_option maxHeartbeats 8000000 in
set_option maxRecDepth 100000 in
theorem same_any : ∀ (n : Nat) (t : S24), tsize t ≤ n → ∀ (u : S24) (A A' : Option Addr) (c c' : Nat) (w0 w : World),
    Kd.C k24 w0 A t.f3.length t.f3 → t.f3.length ≤ c → Kd.C k24 w0 A' u.f3.length u.f3 → u.f3.length ≤ c' → Below w0.heap.size w0 w →
    Calls Tryd.prog 53 #[.agg #[.int .i64 t.f0, .string t.f1, .int .i64 t.f2, .slice A t.f3.length c], .agg #[.int .i64 u.f0, .string u.f1, .int .i64 u.f2, .slice A' u.f3.length c']] w fun e w' => e = .returned (.bool (sameT t u)) ∧ Below w.heap.size w w' := by
  intro n
  induction n with
  | zero => intro t ht; rw [tsize_mk] at ht; omega
  | succ n ih =>
    intro t ht u A A' c c' w0 w hC hc hC' hc' hB
    have hE : ∀ W : World, Below w0.heap.size w0 W → Calls Tryd.prog 58 #[.slice A t.f3.length c, .slice A' u.f3.length c', .func (.func 53) #[] #[]] W fun e w' => e = .returned (.bool (sameL t.f3 u.f3)) ∧ Below W.heap.size W w' := fun W hb =>
      eq_any t.f3 u.f3 A A' c c' w0 W hC hc hC' hc' hb (fun x hx y B B' d d' W' k1 k2 k3 k4 k5 => ih x (by rw [tsize_mk] at ht; have := lsize_mem hx; omega) y B B' d d' w0 W' k1 k2 k3 k4 k5)
    have HE := Lib.hid hE
    have HB := Lib.hid hB
    have HS := Lib.hid (sameT_mk t u)
    clear hE hC hC' hB ih
    go_enter Tryd.func53, Tryd.ntmps53
    go_wp2_with (go_at_call 58; refine (HE.out _ ?b1).mono ?_; (case b1 => exact (HB.out.alloc HB.out.size _).alloc (by have := HB.out.size; simp; omega) _); rintro e w5 ⟨rfl, hb5⟩; have HB5 := Lib.hid (below_two (Below.refl _ _) _ _ hb5); clear hb5)
    all_goals exact bodyPost_ret (v := .bool (sameT t u)) (by rw [HS.out]; simp [results, Tryd.results53, go_sem, *]) rfl ⟨rfl, by first | exact HB5.out | exact (by repeat (first | exact Below.refl _ _ | with_reducible assumption | refine Below.alloc ?_ (by first | exact Nat.le_refl _ | (simp; done) | (simp; omega) | omega) _ | refine Below.setCell ?_ (by first | exact Nat.le_refl _ | (simp; done) | (simp; omega) | omega) _ | refine Below.drew ?_ | refine bdrewN ?_ _))⟩

set_option maxHeartbeats 8000000 in
set_option maxRecDepth 100000 in
/-- term.Same. -/
theorem Same_any (t u : S24) (A A' : Option Addr) (c c' : Nat) (w : World) (hC : Kd.C k24 w A t.f3.length t.f3) (hc : t.f3.length ≤ c) (hC' : Kd.C k24 w A' u.f3.length u.f3) (hc' : u.f3.length ≤ c') :
    Calls Tryd.prog 42 #[.agg #[.int .i64 t.f0, .string t.f1, .int .i64 t.f2, .slice A t.f3.length c], .agg #[.int .i64 u.f0, .string u.f1, .int .i64 u.f2, .slice A' u.f3.length c']] w fun e w' => e = .returned (.bool (decide (deepT t 101 ≤ 100) && decide (deepT u 101 ≤ 100) && sameT t u)) ∧ Below w.heap.size w w' := by
  have HC := Lib.hid hC
  have HC' := Lib.hid hC'
  clear hC hC'
  go_enter Tryd.func42, Tryd.ntmps42
  have e0 : ∀ W : World, ((W.alloc (.cells #[.int .i64 t.f0, .string t.f1, .int .i64 t.f2, .slice A t.f3.length c] 24)).alloc (.cells #[.int .i64 u.f0, .string u.f1, .int .i64 u.f2, .slice A' u.f3.length c'] 24)).heap[W.heap.size]? = some (.cells #[.int .i64 t.f0, .string t.f1, .int .i64 t.f2, .slice A t.f3.length c] 24 (0, 0)) := fun W => blk_alloc (blk_new _ _) _
  have e1 : ∀ W : World, ((W.alloc (.cells #[.int .i64 t.f0, .string t.f1, .int .i64 t.f2, .slice A t.f3.length c] 24)).alloc (.cells #[.int .i64 u.f0, .string u.f1, .int .i64 u.f2, .slice A' u.f3.length c'] 24)).heap[W.heap.size + 1]? = some (.cells #[.int .i64 u.f0, .string u.f1, .int .i64 u.f2, .slice A' u.f3.length c'] 24 (0, 0)) := fun W => by
    have := blk_new (W.alloc (.cells #[.int .i64 t.f0, .string t.f1, .int .i64 t.f2, .slice A t.f3.length c] 24)) (.cells #[.int .i64 u.f0, .string u.f1, .int .i64 u.f2, .slice A' u.f3.length c'] 24)
    simpa using this
  have E0 := Lib.hid (e0 w)
  have E1 := Lib.hid (e1 w)
  have HD1 := Lib.hid (fun W k => Deep_any t A c W k hc)
  have HD2 := Lib.hid (fun W k => Deep_any u A' c' W k hc')
  have HSM := Lib.hid (fun W k1 k2 k3 => same_any (tsize t) t (Nat.le_refl _) u A A' c c' w W k1 hc k2 hc' k3)
  clear e0 e1
  go_wp2_with (first
    | (go_at_call 52; refine (HD1.out _ ?b1).mono ?_; (case b1 => exact Kd.C_alloc (Kd.C_alloc HC.out _) _); rintro e w1 ⟨rfl, hb1⟩; have K0 := Lib.hid (blk_below E0.out hb1); have K1 := Lib.hid (blk_below E1.out hb1); have HB1 := Lib.hid (below_two (Below.refl _ _) _ _ hb1); clear hb1; have p0 := (blk_cell K0.out 0).trans rfl; have p1 := (blk_cell K0.out 1).trans rfl; have p2 := (blk_cell K0.out 2).trans rfl; have p3 := (blk_cell K0.out 3).trans rfl; have q0 := (blk_cell K1.out 0).trans rfl; have q1 := (blk_cell K1.out 1).trans rfl; have q2 := (blk_cell K1.out 2).trans rfl; have q3 := (blk_cell K1.out 3).trans rfl)
    | (go_at_call 52; refine (HD2.out _ ?b1).mono ?_; (case b1 => exact Kd.C_below HC'.out HB1.out); rintro e w2 ⟨rfl, hb2⟩; have L0 := Lib.hid (blk_below K0.out hb2); have L1 := Lib.hid (blk_below K1.out hb2); have HB2 := Lib.hid (HB1.out.trans (hb2.mono HB1.out.size)); clear hb2; have r0 := (blk_cell L0.out 0).trans rfl; have r1 := (blk_cell L0.out 1).trans rfl; have r2 := (blk_cell L0.out 2).trans rfl; have r3 := (blk_cell L0.out 3).trans rfl; have s0 := (blk_cell L1.out 0).trans rfl; have s1 := (blk_cell L1.out 1).trans rfl; have s2 := (blk_cell L1.out 2).trans rfl; have s3 := (blk_cell L1.out 3).trans rfl)
    | (go_at_call 53; refine (HSM.out _ HC.out HC'.out HB2.out).mono ?_; rintro e w3 ⟨rfl, hb3⟩; have HB3 := Lib.hid (HB2.out.trans (hb3.mono HB2.out.size)); clear hb3))
  all_goals exact bodyPost_ret (v := .bool (decide (deepT t 101 ≤ 100) && decide (deepT u 101 ≤ 100) && sameT t u)) (by simp [results, Tryd.results42, go_sem, *]; try omega) rfl ⟨rfl, by first | exact HB3.out | exact HB2.out | exact HB1.out⟩
end Go.Proofs.YthckboogibhjaaaDoor.Trm
end

section
/- cnf's search of an atom: the closure, slices.IndexFunc over it, (*maker).at. -/
namespace Go.Proofs.YthckboogibhjaaaDoor.Trm
set_option linter.unusedVariables false
set_option linter.unusedSimpArgs false
open Go.RowKit Go.Proofs.YthckboogibhjaaaDoorW.PrintWords Go.Proofs.YthckboogibhjaaaDoorW.PrintMore

/-- term.Same. -/
def sameB (t u : S24) : Bool := decide (deepT t 101 ≤ 100) && decide (deepT u 101 ≤ 100) && sameT t u

/-- The first that is the same, from a number on; -1: none is. -/
def findT : List S24 → S24 → Nat → Int
  | [], _, _ => -1
  | x :: l, t, j => if sameB x t = true then (j : Int) else findT l t (j + 1)

set_option maxHeartbeats 8000000 in
set_option maxRecDepth 100000 in
theorem clo_any (x t : S24) (A A' : Option Addr) (c c' : Nat) (tb : Nat) (w0 w : World) (hC : Kd.C k24 w0 A x.f3.length x.f3) (hc : x.f3.length ≤ c) (hC' : Kd.C k24 w0 A' t.f3.length t.f3) (hc' : t.f3.length ≤ c') (hB : Below w0.heap.size w0 w)
    (hk : w.heap[tb]? = some (.cells #[.int .i64 t.f0, .string t.f1, .int .i64 t.f2, .slice A' t.f3.length c'] 24 (0, 0))) :
    Calls Tryd.prog 41 #[.agg #[.int .i64 x.f0, .string x.f1, .int .i64 x.f2, .slice A x.f3.length c], .pointer (some ⟨tb, 0, none⟩)] w fun e w' => e = .returned (.bool (sameB x t)) ∧ Below w.heap.size w w' := by
  have HS := Lib.hid (fun W k1 k2 => Same_any x t A A' c c' W k1 hc k2 hc')
  have HC := Lib.hid hC
  have HC' := Lib.hid hC'
  have HB := Lib.hid hB
  have zt := blk_lt hk
  have p0 := (blk_cell hk 0).trans rfl
  have p1 := (blk_cell hk 1).trans rfl
  have p2 := (blk_cell hk 2).trans rfl
  have p3 := (blk_cell hk 3).trans rfl
  clear hC hC' hB hk
  go_enter Tryd.func41, Tryd.ntmps41
  go_wp2_with (go_at_call 42; refine (HS.out _ ?b1 ?b2).mono ?_; (case b1 => exact Kd.C_below HC.out (HB.out.alloc HB.out.size _)); (case b2 => exact Kd.C_below HC'.out (HB.out.alloc HB.out.size _)); rintro e w1 ⟨rfl, hb1⟩)
  exact bodyPost_ret (v := .bool (sameB x t)) (by simp [results, Tryd.results41, go_sem, sameB]) rfl ⟨rfl, by refine Below.trans ?_ (hb1.mono (by first | exact Nat.le_refl _ | (simp; done) | (simp; omega) | omega)); exact (by repeat (first | exact Below.refl _ _ | with_reducible assumption | refine Below.alloc ?_ (by first | exact Nat.le_refl _ | (simp; done) | (simp; omega) | omega) _ | refine Below.setCell ?_ (by first | exact Nat.le_refl _ | (simp; done) | (simp; omega) | omega) _ | refine Below.drew ?_ | refine bdrewN ?_ _))⟩

set_option maxHeartbeats 8000000 in
set_option maxRecDepth 100000 in
theorem idx_any (l : List S24) (t : S24) (A A' : Option Addr) (c c' : Nat) (tb : Nat) (w0 w : World) (hC : Kd.C k24 w0 A l.length l) (hc : l.length ≤ c) (hC' : Kd.C k24 w0 A' t.f3.length t.f3) (hc' : t.f3.length ≤ c') (hB : Below w0.heap.size w0 w)
    (hk : w.heap[tb]? = some (.cells #[.int .i64 t.f0, .string t.f1, .int .i64 t.f2, .slice A' t.f3.length c'] 24 (0, 0))) :
    Calls Tryd.prog 40 #[.slice A l.length c, .func (.func 41) #[] #[.pointer (some ⟨tb, 0, none⟩)]] w fun e w' => e = .returned (.int .i64 (findT l t 0)) ∧ Below w.heap.size w w' := by
  have HC := Lib.hid hC
  have HB := Lib.hid hB
  have HK := Lib.hid hk
  have HX := Lib.hid (fun x B d W k1 k2 k3 k4 => clo_any x t B A' d c' tb w0 W k1 k2 hC' hc' k3 k4)
  clear hC hC' hB hk
  go_enter Tryd.func40, Tryd.ntmps40
  go_wp2
  go_loopw [8] (fun v wr => ∃ j : Nat, j ≤ l.length ∧ v = .int .i64 j ∧ findT l t 0 = findT (l.drop j) t j ∧ Below w.heap.size w wr) (fun v _ => l.length - (intOf v).toNat)
  case atStart => exact ⟨0, Nat.zero_le _, rfl, by rw [List.drop_zero], Below.refl _ _⟩
  case round =>
    obtain ⟨j, hj, rfl, hL, hbr⟩ := hrel
    by_cases hjl : j < l.length
    · have hmax := Kd.C_max HC.out
      obtain ⟨ad, B, d, e, x0, x1, x2, x3, l', C'⟩ := el_T HC.out hjl
      have hbw : Below w0.heap.size w0 wr := HB.out.trans (hbr.mono HB.out.size)
      rw [List.drop_eq_getElem_cons hjl, findT] at hL
      generalize l[j] = x at *
      replace x0 := (hbw.cell (World.block_lt_of_cell? w0 _ x0)).trans x0
      replace x1 := (hbw.cell (World.block_lt_of_cell? w0 _ x1)).trans x1
      replace x2 := (hbw.cell (World.block_lt_of_cell? w0 _ x2)).trans x2
      replace x3 := (hbw.cell (World.block_lt_of_cell? w0 _ x3)).trans x3
      subst e
      have hj9 : j + 1 < 9223372036854775808 := by omega
      have EW := Lib.hid (wrapj hj9)
      have HL := Lib.hid hL
      have HBR := Lib.hid hbr
      have HBW := Lib.hid hbw
      have HCx := Lib.hid C'
      clear hL hbr hbw C' hmax
      cases hxy : sameB x t with
      | true =>
        have hl2 := HL.out
        rw [hxy, if_pos rfl] at hl2
        have HL2 := Lib.hid hl2
        clear hl2 HL
        go_wp2_with (go_at_call 41; refine (HX.out x B d _ HCx.out l' HBW.out (blk_below HK.out HBR.out)).mono ?_; rw [hxy]; rintro e w5 ⟨rfl, hb5⟩; have HB5 := Lib.hid (HBR.out.trans (hb5.mono HBR.out.size)); clear hb5)
        exact bodyPost_ret (v := .int .i64 (j : Int)) (by simp [results, Tryd.results40, go_sem]) rfl ⟨by rw [HL2.out], HB5.out⟩
      | false =>
        have hl2 := HL.out
        rw [hxy, if_neg (by decide)] at hl2
        have HL2 := Lib.hid hl2
        clear hl2 HL
        go_wp2_with (go_at_call 41; refine (HX.out x B d _ HCx.out l' HBW.out (blk_below HK.out HBR.out)).mono ?_; rw [hxy]; rintro e w5 ⟨rfl, hb5⟩; have HB5 := Lib.hid (HBR.out.trans (hb5.mono HBR.out.size)); clear hb5)
        refine ⟨⟨j + 1, hjl, by first | rfl | rw [EW.out], HL2.out, HB5.out⟩, ?_⟩
        first
        | exact Nat.sub_lt_sub_left hjl (Nat.lt_succ_self _)
        | (simp only [EW.out, intOf, Int.toNat_natCast]; exact Nat.sub_lt_sub_left hjl (Nat.lt_succ_self _))
    · have hjj : j = l.length := by omega
      subst hjj
      rw [List.drop_length, findT] at hL
      go_wp2
      exact bodyPost_ret (v := .int .i64 (-1)) (by simp [results, Tryd.results40, go_sem]) rfl ⟨by rw [hL], hbr⟩

set_option maxHeartbeats 8000000 in
set_option maxRecDepth 100000 in
theorem at_any (l : List S24) (t : S24) (A A' : Option Addr) (c c' : Nat) (mb : Nat) (v2 v3 : Value) (w : World) (hC : Kd.C k24 w A l.length l) (hc : l.length ≤ c) (hC' : Kd.C k24 w A' t.f3.length t.f3) (hc' : t.f3.length ≤ c')
    (hm : w.cell? ⟨mb, 0, none⟩ = some (.slice A l.length c)) :
    Calls Tryd.prog 26 #[.pointer (some ⟨mb, 0, none⟩), .agg #[.int .i64 t.f0, .string t.f1, .int .i64 t.f2, .slice A' t.f3.length c']] w fun e w' => e = .returned (.int .i64 (findT l t 0)) ∧ Below w.heap.size w w' := by
  have zm : mb < w.heap.size := World.block_lt_of_cell? w _ hm
  have HC := Lib.hid hC
  have HC' := Lib.hid hC'
  have e0 := blk_new w (.cells #[.int .i64 t.f0, .string t.f1, .int .i64 t.f2, .slice A' t.f3.length c'] 24)
  have E0 := Lib.hid e0
  have HI := Lib.hid (fun tb W k1 k2 => idx_any l t A A' c c' tb w W hC hc hC' hc' k1 k2)
  clear hC hC' e0
  go_enter Tryd.func26, Tryd.ntmps26
  go_wp2_with (go_at_call 40; refine (HI.out _ _ ?b1 ?b2).mono ?_; (case b1 => exact (Below.refl _ _).alloc (Nat.le_refl _) _); (case b2 => exact E0.out); rintro e w1 ⟨rfl, hb1⟩)
  exact bodyPost_ret (v := .int .i64 (findT l t 0)) (by simp [results, Tryd.results26, go_sem]) rfl ⟨rfl, by refine Below.trans ?_ (hb1.mono (by first | exact Nat.le_refl _ | (simp; done) | (simp; omega) | omega)); exact (by repeat (first | exact Below.refl _ _ | with_reducible assumption | refine Below.alloc ?_ (by first | exact Nat.le_refl _ | (simp; done) | (simp; omega) | omega) _ | refine Below.setCell ?_ (by first | exact Nat.le_refl _ | (simp; done) | (simp; omega) | omega) _ | refine Below.drew ?_ | refine bdrewN ?_ _))⟩
end Go.Proofs.YthckboogibhjaaaDoor.Trm
end

section
/- cnf.joins. -/
namespace Go.Proofs.YthckboogibhjaaaDoor.Trm
set_option linter.unusedVariables false
set_option linter.unusedSimpArgs false
open Go.RowKit Go.Proofs.YthckboogibhjaaaDoorW.PrintWords Go.Proofs.YthckboogibhjaaaDoorW.PrintMore

/-- An operation joins bools. -/
def joinsB (op : Int) : Bool := decide (16 ≤ op) && decide (op ≤ 21)

theorem joins_eq (op : Int) : (op == 16 || op == 17 || op == 18 || op == 19 || op == 20 || op == 21) = joinsB op := by
  unfold joinsB
  rw [Bool.eq_iff_iff]
  simp
  omega

set_option maxHeartbeats 4000000 in
theorem joins_any (op : Int) (w : World) : Calls Tryd.prog 25 #[.int .i64 op] w fun e w' => e = .returned (.bool (joinsB op)) ∧ w' = w := by
  go_enter Tryd.func25, Tryd.ntmps25
  go_wp2
  all_goals (refine bodyPost_ret (v := .bool (joinsB op)) (by first | (simp [results, Tryd.results25, go_sem, joinsB, *]; done) | (simp [results, Tryd.results25, go_sem]; exact joins_eq op)) rfl ⟨rfl, rfl⟩)
end Go.Proofs.YthckboogibhjaaaDoor.Trm
end

section
/- cnf's maker: adding a clause. -/
namespace Go.Proofs.YthckboogibhjaaaDoor.Trm
set_option linter.unusedVariables false
set_option linter.unusedSimpArgs false
open Go.RowKit Go.Proofs.YthckboogibhjaaaDoorW.PrintWords Go.Proofs.YthckboogibhjaaaDoorW.PrintMore

theorem infoInts : (Tryd.prog.info? 32).map (fun i => (i.zero, i.size, i.bytes)) = some (some (.slice none 0 0), 1, 24) := by kernel_rfl

set_option maxHeartbeats 4000000 in
set_option maxRecDepth 100000 in
/-- (*maker).add: vc is the row of the clauses; ok leaves the maker's own block out. -/
theorem add_any (mb : Nat) (va vc : Value) (vars : Int) (cls : List (List Int)) (c : List Int) (Al : Option Addr) (cl : Nat) (base : Nat) (ok okp : Nat → Prop) (w0 w : World)
    (hm : w.heap[mb]? = some (.cells #[va, .int .i64 vars, vc] 47 (0, 0)))
    (hN : Kd.N (Kd.slice 3 (Kd.int .i64)) 32 w base ok vc cls) (hmb : ¬ ok mb) (hF : Kd.FK (Kd.slice 3 (Kd.int .i64)) w okp c [.slice Al c.length cl]) (hokp : ∀ k, okp k → ok k ∧ some k ≠ vc.ownBlock) (hfresh : ∀ k, w.heap.size ≤ k → ok k)
    (hB : Below base w0 w) (hbase : base ≤ w.heap.size) (hbm : base ≤ mb) (hlen : cls.length ≤ 1000000) :
    Calls Tryd.prog 27 #[.pointer (some ⟨mb, 0, none⟩), .slice Al c.length cl] w fun e w' => e = .returned (.tuple #[]) ∧ ∃ v1, w'.heap[mb]? = some (.cells #[va, .int .i64 vars, v1] 47 (0, 0)) ∧ Kd.N (Kd.slice 3 (Kd.int .i64)) 32 w' base ok v1 (cls ++ [c]) ∧ Below base w0 w' ∧ (v1.ownBlock = vc.ownBlock ∨ ∃ b, v1.ownBlock = some b ∧ w.heap.size ≤ b) ∧ (∀ k, k < w.heap.size → k ≠ mb → some k ≠ vc.ownBlock → w'.heap[k]? = w.heap[k]?) ∧ w.heap.size ≤ w'.heap.size := by
  obtain ⟨a0, k0, rfl⟩ := Kd.N_slice hN
  have hne : some mb ≠ (.slice a0 cls.length k0 : Value).ownBlock := fun h => hmb (hN.1 mb h.symm)
  have p2 : w.cell? ⟨mb, 2, none⟩ = some (.slice a0 cls.length k0) := (blk_cell hm 2).trans rfl
  have zm := blk_lt hm
  have HM := Lib.hid hm
  have HN := Lib.hid hN
  have HF := Lib.hid hF
  have HP := Lib.hid hokp
  have HFR := Lib.hid hfresh
  have HB := Lib.hid hB
  have HMB := Lib.hid hmb
  have HNE := Lib.hid hne
  clear hm hN hF hokp hfresh hB hmb hne
  go_enter Tryd.func27, Tryd.ntmps27
  go_wp2_with (first | ((with_reducible refine gate_dst (N := 11) rfl ?_); refine Hid.out ?_))
  refine Lib.hid ?_
  refine Kd.N_append (Kd.slice 3 (Kd.int .i64)) (w0 := w0) base rfl (.tmp 8) (.tmp 10) 26 32 (.slice none 0 0) 24 rfl Tryd.underlying26 infoInts rfl (by decide) (by omega) (.slice a0 cls.length k0) cls c [.slice Al c.length cl] ok okp rfl rfl HF.out HP.out HFR.out HN.out HB.out hbase (by omega) ?_
  intro v1 w1 hN1 hB1 hg hat
  obtain ⟨a1, k1, rfl⟩ := Kd.N_slice hN1
  have el : (cls ++ [c]).length = cls.length + 1 := by simp
  rw [el] at hN1 hat
  clear el
  have m1 := blk_grown HM.out hg HNE.out
  have q2 := blk_frozen m1 2
  have q3 : (w1.cell? ⟨mb, 2, none⟩) = some (.slice a0 cls.length k0) := (blk_cell m1 2).trans rfl
  have HN1 := Lib.hid hN1
  have HB1 := Lib.hid hB1
  have HG := Lib.hid hg
  have HA := Lib.hid hat
  have M1 := Lib.hid m1
  clear hN1 hB1 hg hat m1
  go_wp2
  refine bodyPost_end (v := .tuple #[]) (by simp [results, Tryd.results27, go_sem]) rfl ⟨rfl, .slice a1 (cls.length + 1) k1, blk_put M1.out 2 _ rfl, Kd.N_far HN1.out (fun k hk he => HMB.out (by rw [← show k = mb from he]; exact hk)) _, HB1.out.setCell hbm _, HA.out, fun k hk h1 h2 => (Below.heap_setCell _ _ _ _ h1).trans (HG.out.block k hk h2), ?_⟩
  have := HG.out.size
  simp [World.setCell]; exact this
end Go.Proofs.YthckboogibhjaaaDoor.Trm
end

section
/- cnf's maker: pairs. -/
namespace Go.Proofs.YthckboogibhjaaaDoor.Trm
set_option linter.unusedVariables false
set_option linter.unusedSimpArgs false
open Go.RowKit Go.Proofs.YthckboogibhjaaaDoorW.PrintWords Go.Proofs.YthckboogibhjaaaDoorW.PrintMore

/-- A short row of numbers just made, as an element. -/
theorem fk_new {W : World} {g : Nat} {xs : List Int} (hn : 0 < xs.length) (hm : xs.length ≤ 2) (h : W.heap[g]? = some (.cells (xs.map (Value.int .i64)).toArray 3 (0, 0))) {okp : Nat → Prop} (hok : okp g) :
    Kd.FK (Kd.slice 3 (Kd.int .i64)) W okp xs [.slice (some ⟨g, 0, none⟩) xs.length xs.length] :=
  Kd.FK_slice_mk (Nat.le_refl _) (fun W' hW => row_ints hn hm ((hW g hok (blk_lt h)).trans h))

set_option maxHeartbeats 8000000 in
set_option maxRecDepth 100000 in
theorem pairs_any (mb : Nat) (va vc : Value) (vars h : Int) (cls : List (List Int)) (l : List Int) (Al : Option Addr) (cl : Nat) (base : Nat) (ok okl : Nat → Prop) (w0 w : World)
    (hm : w.heap[mb]? = some (.cells #[va, .int .i64 vars, vc] 47 (0, 0)))
    (hN : Kd.N (Kd.slice 3 (Kd.int .i64)) 32 w base ok vc cls) (hmb : ¬ ok mb) (hF : Kd.F (Kd.int .i64) w okl Al l.length l) (hcl : l.length ≤ cl) (hokl : ∀ k, okl k → k ≠ mb ∧ some k ≠ vc.ownBlock) (hfresh : ∀ k, w.heap.size ≤ k → ok k)
    (hB : Below base w0 w) (hbase : base ≤ w.heap.size) (hbm : base ≤ mb) (hlen : cls.length + l.length ≤ 1000000) :
    Calls Tryd.prog 43 #[.pointer (some ⟨mb, 0, none⟩), .int .i64 h, .slice Al l.length cl] w fun e w' => e = .returned (.tuple #[]) ∧ ∃ v1, w'.heap[mb]? = some (.cells #[va, .int .i64 vars, v1] 47 (0, 0)) ∧ Kd.N (Kd.slice 3 (Kd.int .i64)) 32 w' base ok v1 (cls ++ l.map fun n => [h, n]) ∧ Below base w0 w' ∧ (v1.ownBlock = vc.ownBlock ∨ ∃ b, v1.ownBlock = some b ∧ w.heap.size ≤ b) ∧ (∀ k, k < w.heap.size → k ≠ mb → some k ≠ vc.ownBlock → w'.heap[k]? = w.heap[k]?) ∧ w.heap.size ≤ w'.heap.size := by
  have HF := Lib.hid hF
  have HL := Lib.hid hokl
  have HFR := Lib.hid hfresh
  have HMB := Lib.hid hmb
  have hN0 := hN
  have HN0 := Lib.hid hN0
  have HM0 := Lib.hid hm
  have HB0 := Lib.hid hB
  clear hF hokl hfresh hmb hN hN0 hm hB
  go_enter Tryd.func43, Tryd.ntmps43
  go_wp2
  go_loopw [10] (fun v wr => ∃ (j : Nat) (vd : Value), j ≤ l.length ∧ v = .int .i64 j ∧ wr.heap[mb]? = some (.cells #[va, .int .i64 vars, vd] 47 (0, 0)) ∧ Kd.N (Kd.slice 3 (Kd.int .i64)) 32 wr base ok vd (cls ++ (l.take j).map fun n => [h, n]) ∧ Below base w0 wr ∧ (vd.ownBlock = vc.ownBlock ∨ ∃ b, vd.ownBlock = some b ∧ w.heap.size ≤ b) ∧ (∀ k, k < w.heap.size → k ≠ mb → some k ≠ vc.ownBlock → wr.heap[k]? = w.heap[k]?) ∧ w.heap.size ≤ wr.heap.size) (fun v _ => l.length - (intOf v).toNat)
  case atStart => exact ⟨0, vc, Nat.zero_le _, rfl, HM0.out, by simpa using HN0.out, HB0.out, .inl rfl, fun _ _ _ _ => rfl, Nat.le_refl _⟩
  case round =>
    obtain ⟨j, vd, hj, rfl, hm, hN, hB, hv, hk, hsz⟩ := hrel
    by_cases hjl : j < l.length
    · have hC : Kd.C (Kd.int .i64) wr Al l.length l := Kd.F_now (Kd.F_step HF.out (fun k hk1 hk2 => hk k hk2 (HL.out k hk1).1 (HL.out k hk1).2))
      have hmax := Kd.C_max hC
      obtain ⟨ad, eA, x0⟩ := Kd.at_int hC (j : Int) (by omega) (by omega)
      have erd : rd l (j : Int) = l[j] := by simp [rd, List.getElem?_eq_getElem hjl]
      rw [erd, Int.toNat_natCast] at x0
      have htk : cls ++ (l.take (j + 1)).map (fun n => [h, n]) = (cls ++ (l.take j).map fun n => [h, n]) ++ [[h, l[j]]] := by
        rw [List.take_add_one, List.getElem?_eq_getElem hjl, List.map_append, ← List.append_assoc]; rfl
      have hll : (cls ++ (l.take j).map fun n => [h, n]).length ≤ 1000000 := by simp; omega
      generalize hcj : (cls ++ (l.take j).map fun n => [h, n]) = cj at *
      generalize l[j] = x at *
      have en := blk_new wr (.cells #[.int .i64 h, .int .i64 x] 3)
      have hown : ∀ k, vd.ownBlock = some k → k < wr.heap.size := fun k hk1 => by
        obtain ⟨-, rows, -, hR, -⟩ := hN
        obtain ⟨inner, ho⟩ := Kd.R_own hR
        obtain ⟨cells, hcells⟩ := own_typed ho k hk1
        exact blk_lt hcells
      have hadd := add_any mb va vd vars cj [h, x] (some ⟨wr.heap.size, 0, none⟩) 2 base ok (fun k => k = wr.heap.size) w0 (wr.alloc (.cells #[.int .i64 h, .int .i64 x] 3)) (blk_alloc hm _) (Kd.N_alloc hN _) HMB.out (fk_new (xs := [h, x]) (by simp) (by simp) en rfl)
        (fun k hk1 => by subst hk1; exact ⟨HFR.out _ hsz, fun he => by have := hown _ he.symm; omega⟩) (fun k hk1 => HFR.out k (by simp at hk1; omega)) (hB.alloc (by omega) _) (by simp; omega) hbm hll
      have HADD := Lib.hid hadd
      have EW := Lib.hid (wrapj (show j + 1 < 9223372036854775808 by omega))
      subst eA
      have HV := Lib.hid hv
      have HK := Lib.hid hk
      have HT := Lib.hid htk
      clear hm hN hB hv hk hC hmax erd htk hcj en hown hadd hll
      go_wp2_with (go_at_call 27; refine HADD.out.mono ?_; rintro e w5 ⟨rfl, v1, q1, q2, q3, q4, q5, q6⟩; have Q1 := Lib.hid q1; have Q2 := Lib.hid q2; have Q3 := Lib.hid q3; have Q4 := Lib.hid q4; have Q5 := Lib.hid q5; have Q6 := Lib.hid q6; clear q1 q2 q3 q4 q5 q6)
      have r4 : v1.ownBlock = vc.ownBlock ∨ ∃ b, v1.ownBlock = some b ∧ w.heap.size ≤ b := by
        rcases Q4.out with h1 | ⟨b, hb1, hb2⟩
        · rw [h1]; exact HV.out
        · exact .inr ⟨b, hb1, by simp at hb2; omega⟩
      have r5 : ∀ k, k < w.heap.size → k ≠ mb → some k ≠ vc.ownBlock → w5.heap[k]? = w.heap[k]? := by
        intro k h1 h2 h3
        have hne : some k ≠ vd.ownBlock := by
          rcases HV.out with h4 | ⟨b, hb1, hb2⟩
          · rw [h4]; exact h3
          · rw [hb1]; intro he; injection he with he; omega
        exact (Q5.out k (by simp; omega) h2 hne).trans ((Below.heap_alloc _ _ _ (by omega)).trans (HK.out k h1 h2 h3))
      have r6 : w.heap.size ≤ w5.heap.size := by have := Q6.out; simp at this; omega
      refine ⟨⟨j + 1, v1, hjl, by first | rfl | rw [EW.out], Q1.out, by rw [HT.out]; exact Q2.out, Q3.out, r4, r5, r6⟩, ?_⟩
      first
      | exact Nat.sub_lt_sub_left hjl (Nat.lt_succ_self _)
      | (simp only [EW.out, intOf, Int.toNat_natCast]; exact Nat.sub_lt_sub_left hjl (Nat.lt_succ_self _))
    · have hjj : j = l.length := by omega
      subst hjj
      rw [List.take_length] at hN
      go_wp2
      exact bodyPost_end (v := .tuple #[]) (by simp [results, Tryd.results43, go_sem]) rfl ⟨rfl, vd, hm, hN, hB, hv, hk, hsz⟩
end Go.Proofs.YthckboogibhjaaaDoor.Trm
end
