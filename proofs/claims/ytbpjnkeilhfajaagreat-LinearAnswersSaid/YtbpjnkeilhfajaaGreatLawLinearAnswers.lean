/- LinearAnswers: an answer is one that may be. -/
import Derived.Test.YtbpjnkeilhfajaaGreatRows
import Derived.Test.YtbpjnkeilhfajaaGreatRxAns
import Derived.Test.YtbpjnkeilhfajaaGreatLnOpen
import Derived.WalkKit
import Derived.ProofKit
import Derived.OpenShut
import Derived.ShutString
import Derived.ChangeOld
import Derived.Below
import Derived.SizedLaws
import Derived.WideKeyArgs
import Derived.Deep.OwnRows
namespace Go.Proofs.YtbpjnkeilhfajaaGreat.linearAnswers
open Go.ChangeShapes Go.WideShapes Go.ChangeAt Go.RowKit Go.Proofs.YtbpjnkeilhfajaaGreat.Ln
set_option linter.unusedVariables false
theorem own : ownKnob Tryz.prog.godebug = none := by kernel_rfl
theorem same_of_below {w w' : World} (h : Below w.heap.size w w') {p : MemPlace} (hp : p.block < w.heap.size) : w.sameAt w' p := by
  cases p with
  | cell b off => exact h.cell (p := ⟨b, off, none⟩) hp
  | map b => exact h.block b hp
set_option maxRecDepth 100000 in
theorem lifted (os : Os) (started : os.Started) (H : Type) (enc : TypeId × Value → H) :
    ReturnsInHanded {} Tryz.checked os 4 .any (Rows.linearAnswersSpec.pre6 enc Tryz.prog Tryz.f4 Rows.linearAnswersRow.domain false) (Rows.linearAnswersSpec.post enc Tryz.prog Tryz.f4 false true false false) := by
  refine returnsInHanded_of_change_sized (C := Tryz.checked) own started (by kernel_rfl) Tryz.func4
    (ChangeSpec.witness6 (enc := enc) (C := Tryz.checked) false ⟨#[], #[.slice none 0 0, .int .i64 0, .int .i64 0], []⟩ 8 (by kernel_rfl) (by kernel_rfl) (by kernel_rfl) (by kernel_rfl)) ?_
  intro W base args ds gs before hval0 hW hcnd hsz0 _
  have hval : ∀ (j : Nat) t v, Tryz.f4.params[j]? = some t → args[j]? = some v → Value.okWide Tryz.prog W .any base t v := hval0
  have hW' := hW
  obtain ⟨p, q, hA0, hV, rfl, hfz, hnd⟩ := hW
  have hA : DataW.TrodAll enc Tryz.prog W 0 (fun _ => true) true Tryz.f4.params.toList args.toList ds p := hA0
  rw [Tryz.params4] at hA hval
  obtain ⟨v0, vs0, d0, ds0, p0, q0, hargs, rfl, rfl, h0, r0⟩ := trodAll_cons hA
  obtain ⟨v1, vs1, d1, ds1, p1, q1, rfl, rfl, rfl, h1, r1⟩ := trodAll_cons r0
  obtain ⟨v2, vs2, d2, ds2, p2, q2, rfl, rfl, rfl, h2, r2⟩ := trodAll_cons r1
  obtain ⟨rfl, rfl, rfl⟩ := trodAll_nil r2
  obtain rfl : args = #[v0, v1, v2] := by cases args; simp_all
  obtain ⟨rfl, rfl⟩ := trodVars_none hV
  obtain ⟨l0, A0, c0, rfl, hc0, hC0, w0⟩ := open_rows (hval 0 _ v0 rfl rfl) h0
  obtain ⟨x1, rfl, w1⟩ := Ln.open_int Tryz.underlying3 (hval 1 _ v1 rfl rfl) h1
  obtain ⟨x2, rfl, w2⟩ := Ln.open_int Tryz.underlying3 (hval 2 _ v2 rfl rfl) h2
  have hlt : ∀ x ∈ p0 ++ (p1 ++ p2), x.block < W.heap.size := fun x hx => hW'.lt x (by simpa using hx)
  clear hA0 hval0 hsz0
  refine (Rw.linanswers_any l0 A0 c0 x1 x2 _ hC0 (fun r hr => ⟨Num.in64_wf (w0 r hr).1, fun x hx => Num.in64_wf ((w0 r hr).2 x hx)⟩) (Num.in64_wf w2)).mono fun e W' ⟨he, bel⟩ => ?_
  subst he
  have stay : ∀ {t v d p}, Tryz.prog.readableRec t = true → t < Tryz.prog.types.size → DataW.Trod enc Tryz.prog W 0 (fun _ => true) true t v d p → (∀ x ∈ p, x.block < W.heap.size) → DataW.Trod enc Tryz.prog W' 0 (fun b => decide (b < W.heap.size)) true t v d p := fun hr ht h hx => WideElems.Trod_stays (P := Tryz.prog) (by kernel_rfl) hr ht h (fun x hm => same_of_below bel (hx x hm)) (fun x hm => by simpa using hx x hm)
  exact ⟨_, rfl, _, _, _, [], _, [], hW', trodAll_mk1 (shut_bool Tryz.underlying4 _), (trodAll_cons_mk (stay (by kernel_rfl) (of_decide_eq_true (by kernel_rfl)) h0 (fun x hx => hlt x (by simp [hx]))) (trodAll_cons_mk (stay (by kernel_rfl) (of_decide_eq_true (by kernel_rfl)) h1 (fun x hx => hlt x (by simp [hx]))) (trodAll_cons_mk (stay (by kernel_rfl) (of_decide_eq_true (by kernel_rfl)) h2 (fun x hx => hlt x (by simp [hx]))) trodAll_mk0))), rfl, bel.frame _, fun h => by cases h⟩
theorem over : Rows.linearAnswersRow.holds Tryz.pinned (OpenSpec.ofChange Rows.linearAnswersSpec) :=
  OpenClaim.holds_of_wide 4 Tryz.f4 rfl rfl rfl rfl rfl rfl rfl ⟨rfl, rfl, rfl, rfl, rfl⟩ rfl rfl rfl rfl rfl (by kernel_rfl) Tryz.func4 (by kernel_rfl)
    (of_decide_eq_true (by kernel_rfl)) (by unfold Func.isWrapper; first | (rw [if_pos (by decide +kernel)]; kernel_rfl) | (rw [if_neg (by decide +kernel)]; exact ⟨rfl, rfl⟩))
    (fun os started H enc _ => lifted os started H enc)
theorem proved : Rows.LinearAnswersSaid := over
#print axioms proved
end Go.Proofs.YtbpjnkeilhfajaaGreat.linearAnswers
namespace Go.Proofs.YtbpjnkeilhfajaaGreat
/-- The row, under a short name, for the claim. -/
theorem linearAnswers_holds : Rows.LinearAnswersSaid := linearAnswers.proved
end Go.Proofs.YtbpjnkeilhfajaaGreat
