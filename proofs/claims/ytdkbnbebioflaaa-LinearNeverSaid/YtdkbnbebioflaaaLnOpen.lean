import Derived.Test.YtdkbnbebioflaaaLnK
import Derived.Test.YtdkbnbebioflaaaChecked
import Derived.Lib.SmallJoins
import Derived.Deep.Slices
import Derived.ProofKit
import Derived.Test.YtdkbnbebioflaaaPLinearNeverx1
section
/- A law's argument that is a row of rows, or of numbers, opened. -/
namespace Go.Proofs.Ytdkbnbebioflaaa.Ln
set_option linter.unusedVariables false
set_option linter.unusedSimpArgs false
open Go.RowKit Go.Proofs.YtdkbnbebioflaaaW.PrintWords Go.Deep Go.Joins Go.WideShapes Go.ChangeShapes

section
variable {H : Type} {enc : TypeId × Value → H} {W : World}
theorem trod_row {α : Type} (dflt : α) (d : Kd α) {e t : TypeId} (ht : Try.prog.underlying t = some (.slice e)) (hsz : Try.prog.cellsOf e = d.sz) (G : α → Prop)
    (hel : ∀ n cs x, DataW.trod enc Try.prog W 0 (fun _ => true) true n e cs = some x → ∃ a, d.K W a cs ∧ G a) {fuel : Nat} {cs : List Value} {x : DataW H × List MemPlace}
    (h : DataW.trod enc Try.prog W 0 (fun _ => true) true fuel t cs = some x) :
    ∃ (xs : List α) (A : Option Addr) (c : Nat), cs = [.slice A xs.length c] ∧ xs.length ≤ c ∧ d.C W A xs.length xs ∧ ∀ a, a ∈ xs → G a := by
  rcases DataW.trod_slice ht h with ⟨e3, -⟩ | ⟨ad, len, cap, elems, rest, q, rfl, e3, -, -, hc, hm, hle, hq, -, -⟩
  · exact ⟨[], none, 0, e3, Nat.le_refl _, Kd.C_nil _ _, fun a ha => by cases ha⟩
  · have hex : ∀ i, i < len → ∃ t : α, ∃ cs', cs'.length = d.sz ∧ (∀ j, j < d.sz → W.cell? ((ad.add (i * d.sz)).add j) = cs'[j]?) ∧ d.K W t cs' ∧ G t := by
      intro i hi
      have h1 := hq i hi
      rw [hsz, List.getElem?_eq_getElem (by omega)] at h1
      obtain ⟨cs', h2, h3⟩ := Option.bind_eq_some_iff.1 h1
      obtain ⟨-, h4, h5⟩ := World.cells?_some h2
      obtain ⟨t, ht, hg⟩ := hel q cs' _ h3
      exact ⟨t, cs', h4, h5, ht, hg⟩
    have : Inhabited α := ⟨dflt⟩
    obtain ⟨f, hf2⟩ := choose_lt hex
    have hll : ((List.range len).map f).length = len := by simp
    refine ⟨(List.range len).map f, some ad, cap, by rw [hll]; exact e3, by rw [hll]; exact hc, ⟨rfl, by rw [hll]; unfold maxLen at hm; omega, fun _ => ⟨_, rfl, fun j p hj => ?_⟩⟩, fun a ha => ?_⟩
    · have hjl : j < len := by have := (List.getElem?_eq_some_iff.1 hj).1; omega
      obtain ⟨cs', g1, g2, g3, _⟩ := hf2 j hjl
      have hp : p = f j := by
        rw [List.getElem?_map, List.getElem?_range hjl] at hj
        simpa using hj.symm
      subst hp
      refine ⟨cs', g1, g3, fun i u hu => ?_⟩
      have hi : i < d.sz := by have := (List.getElem?_eq_some_iff.1 hu).1; omega
      have := g2 i hi
      rw [hu] at this
      have ea : (ad.add (j * d.sz)).add i = ad.add (j * d.sz + i) := Addr.add_add ad (j * d.sz) i
      rw [← ea]; exact this
    · obtain ⟨i, hi, rfl⟩ := List.mem_map.1 ha
      exact (hf2 i (List.mem_range.1 hi)).choose_spec.2.2.2
theorem cellsI64 : Try.prog.cellsOf 2 = 1 := by kernel_rfl
theorem cellsR : Try.prog.cellsOf 33 = 1 := by kernel_rfl
theorem cellsRow : Try.prog.cellsOf 38 = 2 := by kernel_rfl
theorem trod_i64 {n : Nat} {cs : List Value} {x : DataW H × List MemPlace} (h : DataW.trod enc Try.prog W 0 (fun _ => true) true n 2 cs = some x) : ∃ a : Int, (Kd.int .i64).K W a cs ∧ (Lit.int .i64 a).wf = true := by
  obtain ⟨k, e, -, hw⟩ := DataW.trod_int Try.underlying2 h
  exact ⟨k, e, hw⟩
theorem two' {α : Type} {cs : List α} (h : cs.length = 2) : ∃ a b, cs = [a, b] := by
  match cs, h with
  | [a, b], _ => exact ⟨a, b, rfl⟩
/-- A row's numbers are numbers of 64 bits. -/
def RowWf (r : S38) : Prop := (Lit.int .i64 r.f1).wf = true ∧ ∀ x, x ∈ r.f0 → (Lit.int .i64 x).wf = true
set_option maxRecDepth 100000 in
theorem trod_Row {n : Nat} {cs : List Value} {x : DataW H × List MemPlace} (h : DataW.trod enc Try.prog W 0 (fun _ => true) true n 38 cs = some x) : ∃ r : S38, k38.K W r cs ∧ RowWf r := by
  obtain ⟨xs, m, rfl, -, hl, hlen, hf⟩ := DataW.trod_struct Try.underlying38 h
  rw [cellsRow] at hl
  obtain ⟨a, b, rfl⟩ := two' hl
  have f0 : DataW.trod enc Try.prog W 0 (fun _ => true) true m 33 (List.take (Try.prog.cellsOf 33) (List.drop 0 [a, b])) = xs[0]? := hf 0 _ rfl
  have f1 : DataW.trod enc Try.prog W 0 (fun _ => true) true m 2 (List.take (Try.prog.cellsOf 2) (List.drop 1 [a, b])) = xs[1]? := hf 1 _ rfl
  rw [cellsR] at f0
  rw [cellsI64] at f1
  simp only [List.drop_zero, List.drop_succ_cons, List.take_succ_cons, List.take_zero] at f0 f1
  obtain ⟨y0, y1, rfl⟩ := two' (show xs.length = 2 from hlen)
  obtain ⟨k1, e1, -, w1⟩ := DataW.trod_int Try.underlying2 f1
  obtain rfl : b = _ := by simpa using e1
  obtain ⟨l, A, c, e0, hle, hC, hw⟩ := trod_row (0 : Int) (Kd.int .i64) Try.underlying33 cellsI64 (fun a => (Lit.int .i64 a).wf = true) (fun n cs x h => trod_i64 h) f0
  obtain rfl : a = _ := by simpa using e0
  exact ⟨⟨l, k1⟩, k38_mk W ⟨l, k1⟩ hle hC, w1, hw⟩
set_option maxRecDepth 100000 in
/-- An argument that is a row of rows. -/
theorem open_rows {v : Value} {d : DataW H} {p : List MemPlace} {r : Reach} {b0 : Nat} (hv : Value.okWide Try.prog W r b0 22 v) (h : DataW.Trod enc Try.prog W 0 (fun _ => true) true 22 v d p) :
    ∃ (l : List S38) (A : Option Addr) (c : Nat), v = .slice A l.length c ∧ l.length ≤ c ∧ Kd.C k38 W A l.length l ∧ ∀ r, r ∈ l → RowWf r := by
  obtain ⟨a, len, cap, rfl⟩ := okWide_slice Try.underlying22 hv
  obtain ⟨n, hn⟩ := h
  obtain ⟨l, A, c, e, hle, hC, hw⟩ := trod_row z38 k38 Try.underlying22 cellsRow RowWf (fun n cs x h => trod_Row h) hn
  have e' : [Value.slice a len cap] = [.slice A l.length c] := e
  injection e' with e'
  exact ⟨l, A, c, e', hle, hC, hw⟩
set_option maxRecDepth 100000 in
/-- An argument that is a row of numbers. -/
theorem open_nums {k : IntKind} {t e : TypeId} (ht : Try.prog.underlying t = some (.slice e)) (he : Try.prog.underlying e = some (.int k)) (hc1 : Try.prog.cellsOf e = 1) {v : Value} {d : DataW H} {p : List MemPlace} {r : Reach} {b0 : Nat} (hv : Value.okWide Try.prog W r b0 t v) (h : DataW.Trod enc Try.prog W 0 (fun _ => true) true t v d p) :
    ∃ (l : List Int) (A : Option Addr) (c : Nat), v = .slice A l.length c ∧ l.length ≤ c ∧ (Kd.int k).C W A l.length l ∧ ∀ x, x ∈ l → (Lit.int k x).wf = true := by
  obtain ⟨a, len, cap, rfl⟩ := okWide_slice ht hv
  obtain ⟨n, hn⟩ := h
  obtain ⟨l, A, c, e', hle, hC, hw⟩ := trod_row (0 : Int) (Kd.int k) ht hc1 (fun x => (Lit.int k x).wf = true) (fun n cs x h => by
    obtain ⟨y, e1, -, hw⟩ := DataW.trod_int he h
    exact ⟨y, e1, hw⟩) hn
  have e2 : [Value.slice a len cap] = [.slice A l.length c] := e'
  injection e2 with e2
  exact ⟨l, A, c, e2, hle, hC, hw⟩
end
end Go.Proofs.Ytdkbnbebioflaaa.Ln
end

section
/- Plain: what few answers. -/
namespace Go.Proofs.Ytdkbnbebioflaaa.PLinearNever
open Go.RowKit Go.Proofs.Ytdkbnbebioflaaa.Num Go.Proofs.Ytdkbnbebioflaaa.Given Go.Proofs.Ytdkbnbebioflaaa.Lin Go.Proofs.Ytdkbnbebioflaaa.Ln Go.Proofs.YtdkbnbebioflaaaW.PrintWords Go.Proofs.YtdkbnbebioflaaaW.PrintLast Go.Proofs.YtdkbnbebioflaaaW.PrintMore
set_option linter.unusedVariables false

theorem wrap_in64 (x : Int) : In64 (wrap64 x) := by unfold In64 wrap64; omega
theorem fin {x0 : List S38} {x10 : List S29} {x14 : List Int} (h0 : ∀ r, r ∈ x0 → RowIn r) (h1 : ∀ x, x ∈ x10 → RatIn x) (h2 : ∀ x, x ∈ x14 → In64 x) :
    ((linear_CheckPoint.f x0 x10).bind fun t => (if t = true then ((linear_CheckFarkas.f x0 x14).bind fun t2 => (some (!t2))) else (some true))) = some true := by
  unfold linear_CheckPoint.f linear_CheckFarkas.f
  rw [if_pos ⟨h0, h1⟩, if_pos ⟨h0, h2⟩, Option.bind_some]
  by_cases hp : chkP x0 x10 = true
  · rw [if_pos hp, Option.bind_some]
    by_cases hf : chkF x0 x14 = true
    · unfold chkP at hp
      rw [Bool.and_eq_true] at hp
      rw [chkF_is] at hf
      exact (never hp.2 hf).elim
    · rw [Bool.not_eq_true] at hf
      rw [hf]; rfl
  · rw [if_neg hp]
theorem l1_is (x0 : List S38) (x3 : List Int) (x10 : List S29) (h0 : ∀ r, r ∈ x0 → RowIn r) (h1 : ∀ x, x ∈ x10 → RatIn x) : ∀ (d i k : Nat) (acc : List Int), i + d = min x3.length 30 → acc.length = i → (∀ x, x ∈ acc → In64 x) → d < k → ashlarlaw11_LinearNever.l1 k x0 x3 true x10 acc (i : Int) = some true
  | 0, i, k + 1, acc, hi, ha, h2, hk => by
    rw [ashlarlaw11_LinearNever.l1]
    by_cases h : (i : Int) < (x3.length : Int)
    · rw [if_pos h, if_neg (by omega), if_pos rfl]; exact fin h0 h1 h2
    · rw [if_neg h, if_pos rfl]; exact fin h0 h1 h2
  | d + 1, i, k + 1, acc, hi, ha, h2, hk => by
    rw [ashlarlaw11_LinearNever.l1, if_pos (by omega), if_pos (by omega), if_pos (by omega), if_pos (by omega), show wrap64 ((i : Int) + 1) = ((i + 1 : Nat) : Int) from wrapj (by omega)]
    refine l1_is x0 x3 x10 h0 h1 d (i + 1) k _ (by omega) (by simp [ha]) (fun x hx => ?_) (by omega)
    rcases List.mem_append.1 hx with h | h
    · exact h2 x h
    · rw [List.mem_singleton.1 h]; exact wrap_in64 _
theorem l0_is (x0 : List S38) (p q x3 : List Int) (h0 : ∀ r, r ∈ x0 → RowIn r) : ∀ (d i k : Nat) (acc : List S29), i + d = min (min p.length q.length) 70 → acc.length ≤ i → (∀ x, x ∈ acc → RatIn x) → 2 * d + 40 < k → ashlarlaw11_LinearNever.l0 k x0 p q x3 true acc (i : Int) = some true
  | 0, i, k + 2, acc, hi, ha, h1, hk => by
    rw [ashlarlaw11_LinearNever.l0]
    have hj : ashlarlaw11_LinearNever.j1 (k + 1) x0 p q x3 true acc (i : Int) false = some true := by
      rw [ashlarlaw11_LinearNever.j1, if_neg (by decide)]
      exact l1_is x0 x3 acc h0 h1 (min x3.length 30) 0 k [] (by omega) rfl (fun x hx => by cases hx) (by omega)
    by_cases a : (i : Int) < (p.length : Int)
    · rw [if_pos a]
      by_cases b : (i : Int) < (q.length : Int)
      · rw [if_pos b, show decide ((i : Int) < 70) = false from decide_eq_false (by omega)]; exact hj
      · rw [if_neg b]; exact hj
    · rw [if_neg a]; exact hj
  | d + 1, i, k + 2, acc, hi, ha, h1, hk => by
    rw [ashlarlaw11_LinearNever.l0, if_pos (by omega), if_pos (by omega), show decide ((i : Int) < 70) = true from decide_eq_true (by omega), ashlarlaw11_LinearNever.j1, if_pos rfl, if_pos (by omega), if_pos (by omega), if_pos (by omega)]
    unfold num_Make.f
    rw [if_pos ⟨wrap_in64 _, wrap_in64 _⟩, Option.bind_some, show wrap64 ((i : Int) + 1) = ((i + 1 : Nat) : Int) from wrapj (by omega)]
    obtain ⟨⟨x, y, b⟩, hm⟩ : ∃ r, mk (wrap64 (rd p (i : Int))) (wrap64 (rd q (i : Int))) = r := ⟨_, rfl⟩
    have hin := mk_in (wrap64 (rd p (i : Int))) (wrap64 (rd q (i : Int)))
    rw [hm] at hin ⊢
    cases b with
    | true =>
      rw [if_pos rfl, if_pos (by omega)]
      refine l0_is x0 p q x3 h0 d (i + 1) k _ (by omega) (by simp; omega) (fun z hz => ?_) (by omega)
      rcases List.mem_append.1 hz with h | h
      · exact h1 z h
      · rw [List.mem_singleton.1 h]; exact hin
    | false =>
      rw [if_neg (show ¬ (false = true) by decide)]
      exact l0_is x0 p q x3 h0 d (i + 1) k _ (by omega) (by omega) h1 (by omega)
theorem rowIn_wf {r : S38} (h : RowWf r) : RowIn r := ⟨in64_wf h.1, fun x hx => in64_wf (h.2 x hx)⟩
theorem LinearNever (l : List S38) (p q ws : List Int) (h : ∀ r, r ∈ l → RowWf r) : ∃ k, ashlarlaw11_LinearNever.f k l p q ws = some true := by
  refine ⟨200, ?_⟩
  unfold ashlarlaw11_LinearNever.f
  rw [ashlarlaw11_shown.f, Option.bind_some, ashlarlaw11_few.f, Option.bind_some]
  exact l0_is (fewL l) p q ws (rowIn_few fun r hr => rowIn_wf (h r hr)) (min (min p.length q.length) 70) 0 200 [] (by omega) (Nat.le_refl _) (fun x hx => by cases hx) (by omega)

end Go.Proofs.Ytdkbnbebioflaaa.PLinearNever
end
