-- Written by a program of this session (myprint.py) out of the translation, with contracts of this session given.
import Derived.Test.YtnegkabafigfnaaDoorProg
import Derived.Below
import Derived.Deep.Draws
import Derived.Deep.AppendLies
import Derived.Maps.AppendAt
import Derived.OwnWalk
import Derived.Laws.BytesArg
import Derived.Laws.MakeOwn
import Derived.Laws.OwnMore
import Derived.Deep.OwnRows
import Derived.Tactics
import Derived.Lib.ConvBytes
import Derived.Laws.Slices
import Derived.WalkKit
import Derived.KernelRfl
import Derived.RowKit3
import Derived.Deep.LoopGhost
import Derived.Deep.QuietTactic
import Derived.BigQuiet
import Derived.WideLaws
import Derived.Deep.DeepCutAuto
import Derived.Deep.CutBlock
import Derived.Deep.RegionHeld3
import Derived.Laws.Rows
import Derived.Lib.AppendStr
import Derived.ArgAppend
import Derived.Laws.IdiomCopy
import Derived.OrdersHeld
import Derived.Laws.BitsLemmas
import Derived.RowKit
import Derived.Test.YtnegkabafigfnaaDoorLexGiven
import Derived.Test.YtnegkabafigfnaaDoorWWords
import Derived.Test.YtnegkabafigfnaaDoorWLast
import Derived.Test.YtnegkabafigfnaaDoorWTab
import Derived.Test.YtnegkabafigfnaaDoorWFour
import Derived.Test.YtnegkabafigfnaaDoorWQPut
import Derived.Test.YtnegkabafigfnaaDoorWApart
import Derived.Test.YtnegkabafigfnaaDoorWArr
import Derived.Test.YtnegkabafigfnaaDoorWZeros
import Derived.Test.YtnegkabafigfnaaDoorWFoot
import Derived.Test.YtnegkabafigfnaaDoorWKept
import Derived.Test.YtnegkabafigfnaaDoorWShare
import Derived.Test.YtnegkabafigfnaaDoorWN
import Derived.Test.YtnegkabafigfnaaDoorWFootNe
import Derived.Test.YtnegkabafigfnaaDoorWAt
import Derived.Test.YtnegkabafigfnaaDoorWEqStruct
import Derived.Test.YtnegkabafigfnaaDoorWRepsOne
import Derived.Test.YtnegkabafigfnaaDoorWInv
import Derived.Test.YtnegkabafigfnaaDoorWInvWords
import Derived.Test.YtnegkabafigfnaaDoorWGuard
import Derived.Test.YtnegkabafigfnaaDoorWNEv
import Derived.Test.YtnegkabafigfnaaDoorWMore
namespace Go.Proofs.YtnegkabafigfnaaDoor.PLexPlaces
open Go.RowKit Go.Proofs.YtnegkabafigfnaaDoor.Given Go.Proofs.YtnegkabafigfnaaDoorW.PrintWords Go.Proofs.YtnegkabafigfnaaDoorW.PrintLast Go.Proofs.YtnegkabafigfnaaDoorW.PrintMore
attribute [local go_sem] max2_int min2_int max_two min_two max_three min_three max_four min_four   -- for this text's walks alone
set_option linter.unusedVariables false
set_option linter.unusedSimpArgs false



def errW : Option Int → Value
  | none => .nilIface
  | some c => .iface 0 (.int .i64 c)
theorem errW_none : errW none = .nilIface := rfl
theorem errW_some (c : Int) : errW (some c) = .iface 0 (.int .i64 c) := rfl

theorem info35 : (Tryd.prog.info? 35).map (fun i => (i.zero, i.size, i.bytes)) = some (some (.agg #[(.int .i64 0), (.string ⟨#[]⟩), (.int .i64 0)]), 3, 32) := by kernel_rfl
-- the values' own types
/-! #### struct type 35 -/
structure S35 where
  f0 : Int
  f1 : ByteArray
  f2 : Int
def z35 : S35 := ⟨(0 : Int), (⟨#[]⟩ : ByteArray), (0 : Int)⟩
def k35 : Kd S35 := Kd.iso (Kd.pair (Kd.int .i64) (Kd.pair Kd.string (Kd.int .i64))) (fun x : S35 => (x.f0, x.f1, x.f2))
theorem k35_open {w : World} {x : S35} {cs : List Value} (h : k35.K w x cs) : cs = [.int .i64 x.f0, .string x.f1, .int .i64 x.f2] := by
  obtain ⟨_, _, rfl, rfl, ⟨_, _, rfl, rfl, rfl⟩⟩ := h
  exact rfl
theorem k35_openM {w : World} {base : Nat} {ok : Nat → Prop} {x : S35} {cs : List Value} (h : k35.M w base ok x cs) : cs = [.int .i64 x.f0, .string x.f1, .int .i64 x.f2] := by
  obtain ⟨_, _, rfl, rfl, ⟨_, _, rfl, rfl, rfl⟩⟩ := h
  exact rfl
theorem k35_mk (w : World) (x : S35)  : k35.K w x [.int .i64 x.f0, .string x.f1, .int .i64 x.f2] := ⟨[.int .i64 x.f0], [.string x.f1, .int .i64 x.f2], rfl, rfl, ⟨[.string x.f1], [.int .i64 x.f2], rfl, rfl, rfl⟩⟩
theorem k35_mkM (w : World) (base : Nat) (ok : Nat → Prop) (x : S35)  : k35.M w base ok x [.int .i64 x.f0, .string x.f1, .int .i64 x.f2] := ⟨[.int .i64 x.f0], [.string x.f1, .int .i64 x.f2], rfl, rfl, ⟨[.string x.f1], [.int .i64 x.f2], rfl, rfl, rfl⟩⟩
def rd_T35 (xs : List S35) (i : Int) : S35 := xs.getD i.toNat z35
theorem at_T35 {w : World} {A : Option Addr} {n : Nat} {xs : List S35} (h : Kd.C k35 w A n xs) (i : Int) (h0 : 0 ≤ i) (h1 : i < n) : ∃ ad , A = some ad ∧ w.cell? (ad.add (i.toNat * 3)) = some (.int .i64 (rd_T35 xs i).f0) ∧ w.cell? ⟨(ad.add (i.toNat * 3)).block, (ad.add (i.toNat * 3)).off + 1, none⟩ = some (.string (rd_T35 xs i).f1) ∧ w.cell? ⟨(ad.add (i.toNat * 3)).block, (ad.add (i.toNat * 3)).off + 2, none⟩ = some (.int .i64 (rd_T35 xs i).f2) := by
  obtain ⟨ad, c, e, _, hK, hc0⟩ := Kd.C_get h z35 i h0 h1
  have hc : ∀ j u, c[j]? = some u → w.cell? (ad.add (i.toNat * 3 + j)) = some u := hc0
  obtain rfl := k35_open hK
  exact ⟨ad, e, hc 0 _ rfl, by rw [← add_field _ _ 1 (by omega)]; exact hc 1 _ rfl, by rw [← add_field _ _ 2 (by omega)]; exact hc 2 _ rfl⟩

/-! #### lex.Join at this text's own type of tokens -/
def tupT (x : S35) : Lex.Tk := (x.f0, x.f1, x.f2)
theorem joinC {w : World} {A : Option Addr} {n : Nat} {xs : List S35} (h : Kd.C k35 w A n xs) : Kd.C Lex.kT w A n (xs.map tupT) := by
  obtain ⟨h1, h2, h3⟩ := h
  refine ⟨by rw [List.length_map]; exact h1, h2, fun hn => ?_⟩
  obtain ⟨ad, e, hc⟩ := h3 hn
  refine ⟨ad, e, fun j p hp => ?_⟩
  rw [List.getElem?_map] at hp
  cases hx : xs[j]? with
  | none => rw [hx] at hp; cases hp
  | some x =>
    rw [hx] at hp
    have hp' : tupT x = p := Option.some.inj hp
    subst hp'
    exact hc j x hx
def lex_Join.f (l0 : List S35) : Option ByteArray := if (Lex.joinP (l0.map tupT)).length + 1 + l0.length ≤ 1000000 then some ⟨(Lex.joinP (l0.map tupT)).toArray⟩ else none
theorem lex_Join.calls (A0 : Option Addr) (c0 : Nat) (l0 : List S35) (r : ByteArray) (w : World) (hr0 : Kd.C k35 w A0 l0.length l0) (hc0 : l0.length ≤ c0) (h : lex_Join.f l0 = some r) :
    Calls Tryd.prog 14 #[.slice A0 l0.length c0] w fun e w' => e = .returned (.string r) ∧ Below w.heap.size w w' := by
  unfold lex_Join.f at h
  split at h
  · rename_i hd
    have e : (l0.map tupT).length = l0.length := List.length_map tupT
    have := Lex.join_any A0 c0 (l0.map tupT) w (by rw [e]; exact joinC hr0) (by rw [e]; exact hc0) (fun k hk => by
      have := Given.joinP_mono (l0.map tupT) k hk
      rw [e] at hk
      omega)
    rw [e, Option.some.inj h] at this
    exact this
  · cases h

end Go.Proofs.YtnegkabafigfnaaDoor.PLexPlaces
