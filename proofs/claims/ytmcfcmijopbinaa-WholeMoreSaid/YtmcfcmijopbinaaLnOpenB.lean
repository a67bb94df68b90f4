/- A law's argument that is a row (a struct), or a number, opened. -/
import Derived.Test.YtmcfcmijopbinaaLnOpen
namespace Go.Proofs.Ytmcfcmijopbinaa.Ln
set_option linter.unusedVariables false
open Go.RowKit Go.Proofs.YtmcfcmijopbinaaW.PrintWords Go.Deep Go.Joins Go.WideShapes Go.ChangeShapes
section
variable {H : Type} {enc : TypeId × Value → H} {W : World}
set_option maxRecDepth 100000 in
theorem open_Row {v : Value} {d : DataW H} {p : List MemPlace} {r : Reach} {b0 : Nat} (hv : Value.okWide Try.prog W r b0 25 v) (h : DataW.Trod enc Try.prog W 0 (fun _ => true) true 25 v d p) :
    ∃ (x : S25) (A : Option Addr) (c : Nat), v = .agg #[.slice A x.f0.length c, .int .i64 x.f1] ∧ x.f0.length ≤ c ∧ Kd.C (Kd.int .i64) W A x.f0.length x.f0 ∧ RowWf x := by
  obtain ⟨cs, rfl, hsz⟩ := okWide_struct Try.underlying25 hv
  obtain ⟨c0, c1, rfl⟩ := array2 (hsz.trans cellsRow)
  obtain ⟨n, hn⟩ := h
  obtain ⟨x, hx, hw⟩ := trod_Row hn
  obtain ⟨A, c, e, hl, hC⟩ := k25_open hx
  have e' : [c0, c1] = [.slice A x.f0.length c, .int .i64 x.f1] := e
  exact ⟨x, A, c, by rw [show (#[c0, c1] : Array Value) = #[.slice A x.f0.length c, .int .i64 x.f1] from congrArg List.toArray e'], hl, hC, hw⟩
set_option maxRecDepth 100000 in
theorem open_int {k : IntKind} {t : TypeId} (ht : Try.prog.underlying t = some (.int k)) {v : Value} {d : DataW H} {p : List MemPlace} {r : Reach} {b0 : Nat} (hv : Value.okWide Try.prog W r b0 t v) (h : DataW.Trod enc Try.prog W 0 (fun _ => true) true t v d p) :
    ∃ x : Int, v = .int k x ∧ (Lit.int k x).wf = true := by
  obtain ⟨x, rfl⟩ := okWide_int ht hv
  obtain ⟨n, hn⟩ := h
  obtain ⟨y, e, -, hw⟩ := DataW.trod_int ht hn
  have e' : [Value.int k x] = [.int k y] := e
  injection e' with e'
  injection e' with _ e'
  exact ⟨x, rfl, e' ▸ hw⟩
end
end Go.Proofs.Ytmcfcmijopbinaa.Ln
