import Derived.Test.YtdkbnbebioflaaaLnFew1
import Derived.Test.YtdkbnbebioflaaaProg
import Derived.Below
import Derived.Deep.Draws
import Derived.Deep.AppendLies
import Derived.Maps.AppendAt
import Derived.OwnWalk
import Derived.Laws.BytesArg
import Derived.Laws.MakeOwn
import Derived.Laws.OwnMore
import Derived.Deep.OwnRows
import Derived.Tactics
import Derived.Lib.ConvBytes
import Derived.Laws.Slices
import Derived.WalkKit
import Derived.KernelRfl
import Derived.RowKit3
import Derived.Deep.LoopGhost
import Derived.Deep.QuietTactic
import Derived.BigQuiet
import Derived.WideLaws
import Derived.Deep.DeepCutAuto
import Derived.Deep.CutBlock
import Derived.Deep.RegionHeld3
import Derived.Laws.Rows
import Derived.Lib.AppendStr
import Derived.ArgAppend
import Derived.Laws.IdiomCopy
import Derived.OrdersHeld
import Derived.Laws.BitsLemmas
import Derived.RowKit
import Derived.Test.YtdkbnbebioflaaaWWords
import Derived.Test.YtdkbnbebioflaaaWLast
import Derived.Test.YtdkbnbebioflaaaWTab
import Derived.Test.YtdkbnbebioflaaaWArr
import Derived.Test.YtdkbnbebioflaaaWMore
section
/- What few answers; its contract. -/
namespace Go.Proofs.Ytdkbnbebioflaaa.Ln
set_option linter.unusedVariables false
def cut (r : S38) : S38 := ⟨r.f0.take 70, r.f1⟩
def fewL (l : List S38) : List S38 := (l.take 20).map cut
theorem rowIn_few {l : List S38} (h : ∀ r, r ∈ l → Given.RowIn r) : ∀ r, r ∈ fewL l → Given.RowIn r := by
  intro r hr
  obtain ⟨s, hs, rfl⟩ := List.mem_map.1 hr
  have := h s (List.mem_of_mem_take hs)
  exact ⟨this.1, fun x hx => this.2 x (List.mem_of_mem_take hx)⟩
end Go.Proofs.Ytdkbnbebioflaaa.Ln
namespace Go.Proofs.Ytdkbnbebioflaaa.LnFew
open Go.RowKit Go.Proofs.Ytdkbnbebioflaaa.Num Go.Proofs.Ytdkbnbebioflaaa.Given Go.Proofs.Ytdkbnbebioflaaa.Lin Go.Proofs.Ytdkbnbebioflaaa.Ln Go.Proofs.YtdkbnbebioflaaaW.PrintWords Go.Proofs.YtdkbnbebioflaaaW.PrintLast Go.Proofs.YtdkbnbebioflaaaW.PrintMore
theorem few_from (l : List S38) : ∀ (d i k : Nat) (acc : List S38), i + d = min l.length 20 → acc.length = i → d < k → ashlarlaw11_few.l0 k l acc (i : Int) = some (acc ++ ((l.take 20).drop i).map cut)
  | 0, i, k + 1, acc, hi, ha, hk => by
    have hd : (l.take 20).drop i = [] := List.drop_of_length_le (by rw [List.length_take]; omega)
    rw [hd, List.map_nil, List.append_nil, ashlarlaw11_few.l0]
    by_cases h1 : (i : Int) < (l.length : Int)
    · rw [if_pos h1, if_neg (by omega)]
    · rw [if_neg h1]
  | d + 1, i, k + 1, acc, hi, ha, hk => by
    have hil : i < l.length := by omega
    have hlt : i < (l.take 20).length := by rw [List.length_take]; omega
    have e0 : rd_T38 l (i : Int) = l[i] := by simp [rd_T38, List.getElem?_eq_getElem hil]
    have em : mn (((l[i]).f0).length : Int) 70 = ((min l[i].f0.length 70 : Nat) : Int) := by unfold mn; split <;> omega
    rw [ashlarlaw11_few.l0, if_pos (by omega), if_pos (by omega), Option.bind_some, if_pos (by omega), e0, em, if_pos (by omega), if_pos (by omega), if_pos (by simp; omega), if_pos (by omega), show wrap64 ((i : Int) + 1) = ((i + 1 : Nat) : Int) from wrapj (by omega),
      few_from l d (i + 1) k _ (by omega) (by simp [ha]) (by omega), List.drop_eq_getElem_cons hlt, List.map_cons, List.append_assoc, List.getElem_take]
    have e1 : (([] : List Int) ++ l[i].f0.take ((min l[i].f0.length 70 : Nat) : Int).toNat) = l[i].f0.take 70 := by
      rw [List.nil_append, Int.toNat_natCast]
      rcases Nat.le_total l[i].f0.length 70 with h | h
      · rw [Nat.min_eq_left h, List.take_of_length_le (Nat.le_refl _), List.take_of_length_le h]
      · rw [Nat.min_eq_right h]
    rw [e1]
    rfl
theorem few_is (l : List S38) {k : Nat} (hk : 21 ≤ k) : ashlarlaw11_few.f k l = some (fewL l) := by
  unfold ashlarlaw11_few.f
  exact few_from l (min l.length 20) 0 k [] (by omega) rfl (by omega)

end Go.Proofs.Ytdkbnbebioflaaa.LnFew
namespace Go.Proofs.Ytdkbnbebioflaaa.Given
open Go.RowKit Go.Proofs.Ytdkbnbebioflaaa.Ln Go.Proofs.YtdkbnbebioflaaaW.PrintWords
def ashlarlaw11_few.f (l0 : List S38) : Option (List S38) := some (fewL l0)
theorem ashlarlaw11_few.calls (A0 : Option Addr) (c0 : Nat) (l0 : List S38) (r : List S38) (w : World) (hr0 : Kd.C k38 w A0 l0.length l0) (hc0 : l0.length ≤ c0) (h : ashlarlaw11_few.f l0 = some r) :
    Calls Try.prog 7 #[.slice A0 l0.length c0] w fun e w' => ∃ v0_ : Value, e = .returned (v0_) ∧ Kd.S k38 38 w' w.heap.size (fun _ => True) v0_ r ∧ Below w.heap.size w w' :=
  LnFew.ashlarlaw11_few.calls 21 A0 c0 l0 r w hr0 hc0 ((LnFew.few_is l0 (Nat.le_refl _)).trans h)
end Go.Proofs.Ytdkbnbebioflaaa.Given
end

section
-- Written by a program of this session (myprint.py) out of the translation, with contracts of this session given.
namespace Go.Proofs.Ytdkbnbebioflaaa.PLinearNever
open Go.RowKit Go.Proofs.Ytdkbnbebioflaaa.Given Go.Proofs.Ytdkbnbebioflaaa.Ln Go.Proofs.YtdkbnbebioflaaaW.PrintWords Go.Proofs.YtdkbnbebioflaaaW.PrintLast Go.Proofs.YtdkbnbebioflaaaW.PrintMore
attribute [local go_sem] max2_int min2_int max_two min_two max_three min_three max_four min_four   -- for this text's walks alone
set_option linter.unusedVariables false
set_option linter.unusedSimpArgs false



def errW : Option Int → Value
  | none => .nilIface
  | some c => .iface 0 (.int .i64 c)
theorem errW_none : errW none = .nilIface := rfl
theorem errW_some (c : Int) : errW (some c) = .iface 0 (.int .i64 c) := rfl

theorem info2 : (Try.prog.info? 2).map (fun i => (i.zero, i.size, i.bytes)) = some (some (.int .i64 0), 1, 8) := by kernel_rfl
theorem info29 : (Try.prog.info? 29).map (fun i => (i.zero, i.size, i.bytes)) = some (some (.agg #[(.int .i64 0), (.int .i64 0)]), 2, 16) := by kernel_rfl
-- the values' own types
/-! #### struct type 38 -/
/-! #### struct type 29 -/
theorem k29_openM {w : World} {base : Nat} {ok : Nat → Prop} {x : S29} {cs : List Value} (h : k29.M w base ok x cs) : cs = [.int .i64 x.f0, .int .i64 x.f1] := by
  obtain ⟨_, _, rfl, rfl, rfl⟩ := h
  exact rfl
theorem k29_mk (w : World) (x : S29)  : k29.K w x [.int .i64 x.f0, .int .i64 x.f1] := ⟨[.int .i64 x.f0], [.int .i64 x.f1], rfl, rfl, rfl⟩
theorem k29_mkM (w : World) (base : Nat) (ok : Nat → Prop) (x : S29)  : k29.M w base ok x [.int .i64 x.f0, .int .i64 x.f1] := ⟨[.int .i64 x.f0], [.int .i64 x.f1], rfl, rfl, rfl⟩
def rd_T29 (xs : List S29) (i : Int) : S29 := xs.getD i.toNat z29
theorem at_T29 {w : World} {A : Option Addr} {n : Nat} {xs : List S29} (h : Kd.C k29 w A n xs) (i : Int) (h0 : 0 ≤ i) (h1 : i < n) : ∃ ad , A = some ad ∧ w.cell? (ad.add (i.toNat * 2)) = some (.int .i64 (rd_T29 xs i).f0) ∧ w.cell? ⟨(ad.add (i.toNat * 2)).block, (ad.add (i.toNat * 2)).off + 1, none⟩ = some (.int .i64 (rd_T29 xs i).f1) := by
  obtain ⟨ad, c, e, _, hK, hc0⟩ := Kd.C_get h z29 i h0 h1
  have hc : ∀ j u, c[j]? = some u → w.cell? (ad.add (i.toNat * 2 + j)) = some u := hc0
  obtain rfl := k29_open hK
  exact ⟨ad, e, hc 0 _ rfl, by rw [← add_field _ _ 1 (by omega)]; exact hc 1 _ rfl⟩

end Go.Proofs.Ytdkbnbebioflaaa.PLinearNever
end
