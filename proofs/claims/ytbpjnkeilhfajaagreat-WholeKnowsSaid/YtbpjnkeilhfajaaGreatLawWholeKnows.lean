/- WholeKnows: within a small box it knows. -/
import Derived.Test.YtbpjnkeilhfajaaGreatRows
import Derived.Test.YtbpjnkeilhfajaaGreatRwKnows
import Derived.Test.YtbpjnkeilhfajaaGreatLnOpen
import Derived.WalkKit
import Derived.ProofKit
import Derived.OpenShut
import Derived.ShutString
import Derived.ChangeOld
import Derived.Below
import Derived.SizedLaws
import Derived.WideKeyArgs
import Derived.Deep.OwnRows
namespace Go.Proofs
theorem Z130 {p : Prop} (h : p := by kernel_rfl) : p := h
end Go.Proofs
namespace Go.Proofs.YtbpjnkeilhfajaaGreat.wholeKnows
open Go.ChangeShapes Go.WideShapes Go.ChangeAt Go.RowKit Go.Proofs.YtbpjnkeilhfajaaGreat.Ln
set_option linter.unusedVariables false
theorem own : ownKnob Tryz.prog.godebug = none := by kernel_rfl
theorem same_of_below {w w' : World} (h : Below w.heap.size w w') {p : MemPlace} (hp : p.block < w.heap.size) : w.sameAt w' p := by
  cases p with
  | cell b off => exact h.cell (p := ⟨b, off, none⟩) hp
  | map b => exact h.block b hp
set_option maxRecDepth 100000 in
theorem lifted (os : Os) (started : os.Started) (H : Type) (enc : TypeId × Value → H) :
    ReturnsInHanded {} Tryz.checked os 10 .any (Rows.wholeKnowsSpec.pre6 enc Tryz.prog Tryz.f10 Rows.wholeKnowsRow.domain false) (Rows.wholeKnowsSpec.post enc Tryz.prog Tryz.f10 false true false false) := by
  refine returnsInHanded_of_change_sized (C := Tryz.checked) own started Z130 Tryz.func10
    (ChangeSpec.witness6 (enc := enc) (C := Tryz.checked) false ⟨#[], #[.slice none 0 0, .int .i64 0], []⟩ 8 Z130 Z130 Z130 Z130) ?_
  intro W base args ds gs before hval0 hW hcnd hsz0 _
  have hval : ∀ (j : Nat) t v, Tryz.f10.params[j]? = some t → args[j]? = some v → Value.okWide Tryz.prog W .any base t v := hval0
  have hW' := hW
  obtain ⟨p, q, hA0, hV, rfl, hfz, hnd⟩ := hW
  have hA : DataW.TrodAll enc Tryz.prog W 0 (fun _ => true) true Tryz.f10.params.toList args.toList ds p := hA0
  rw [Tryz.params10] at hA hval
  obtain ⟨v0, vs0, d0, ds0, p0, q0, hargs, rfl, rfl, h0, r0⟩ := trodAll_cons hA
  obtain ⟨v1, vs1, d1, ds1, p1, q1, rfl, rfl, rfl, h1, r1⟩ := trodAll_cons r0
  obtain ⟨rfl, rfl, rfl⟩ := trodAll_nil r1
  obtain rfl : args = #[v0, v1] := by cases args; simp_all
  obtain ⟨rfl, rfl⟩ := trodVars_none hV
  obtain ⟨l0, A0, c0, rfl, hc0, hC0, w0⟩ := open_rows (hval 0 _ v0 rfl rfl) h0
  obtain ⟨x1, rfl, w1⟩ := Ln.open_int Tryz.underlying3 (hval 1 _ v1 rfl rfl) h1
  have hlt : ∀ x ∈ p0 ++ p1, x.block < W.heap.size := fun x hx => hW'.lt x (by simpa using hx)
  clear hA0 hval0 hsz0
  refine (Rw.whknows_any l0 A0 c0 x1 W hC0).mono fun e W' ⟨he, bel⟩ => ?_
  subst he
  have stay : ∀ {t v d p}, Tryz.prog.readableRec t = true → t < Tryz.prog.types.size → DataW.Trod enc Tryz.prog W 0 (fun _ => true) true t v d p → (∀ x ∈ p, x.block < W.heap.size) → DataW.Trod enc Tryz.prog W' 0 (fun b => decide (b < W.heap.size)) true t v d p := fun hr ht h hx => WideElems.Trod_stays (P := Tryz.prog) Z130 hr ht h (fun x hm => same_of_below bel (hx x hm)) (fun x hm => by simpa using hx x hm)
  exact ⟨_, rfl, _, _, _, [], _, [], hW', trodAll_mk1 (shut_bool Tryz.underlying4 _), (trodAll_cons_mk (stay Z130 (of_decide_eq_true Z130) h0 (fun x hx => hlt x (by simp [hx]))) (trodAll_cons_mk (stay Z130 (of_decide_eq_true Z130) h1 (fun x hx => hlt x (by simp [hx]))) trodAll_mk0)), rfl, bel.frame _, fun h => by cases h⟩
theorem over : Rows.wholeKnowsRow.holds Tryz.pinned (OpenSpec.ofChange Rows.wholeKnowsSpec) :=
  OpenClaim.holds_of_wide 10 Tryz.f10 rfl rfl rfl rfl rfl rfl rfl ⟨rfl, rfl, rfl, rfl, rfl⟩ rfl rfl rfl rfl rfl Z130 Tryz.func10 Z130
    (of_decide_eq_true Z130) (by unfold Func.isWrapper; first | (rw [if_pos (by decide +kernel)]; kernel_rfl) | (rw [if_neg (by decide +kernel)]; exact ⟨rfl, rfl⟩))
    (fun os started H enc _ => lifted os started H enc)
theorem proved : Rows.WholeKnowsSaid := over
#print axioms proved
end Go.Proofs.YtbpjnkeilhfajaaGreat.wholeKnows
namespace Go.Proofs.YtbpjnkeilhfajaaGreat
/-- The row, under a short name, for the claim. -/
theorem wholeKnows_holds : Rows.WholeKnowsSaid := wholeKnows.proved
end Go.Proofs.YtbpjnkeilhfajaaGreat
