/- Plain: what few answers. -/
import Derived.Test.YtdkbnbebioflaaaPLinearNeverx1
import Derived.Test.YtdkbnbebioflaaaLnOpen
namespace Go.Proofs.Ytdkbnbebioflaaa.PLinearNever
open Go.RowKit Go.Proofs.Ytdkbnbebioflaaa.Num Go.Proofs.Ytdkbnbebioflaaa.Given Go.Proofs.Ytdkbnbebioflaaa.Lin Go.Proofs.Ytdkbnbebioflaaa.Ln Go.Proofs.YtdkbnbebioflaaaW.PrintWords Go.Proofs.YtdkbnbebioflaaaW.PrintLast Go.Proofs.YtdkbnbebioflaaaW.PrintMore
set_option linter.unusedVariables false

theorem wrap_in64 (x : Int) : In64 (wrap64 x) := by unfold In64 wrap64; omega
theorem fin {x0 : List S38} {x10 : List S29} {x14 : List Int} (h0 : ∀ r, r ∈ x0 → RowIn r) (h1 : ∀ x, x ∈ x10 → RatIn x) (h2 : ∀ x, x ∈ x14 → In64 x) :
    ((linear_CheckPoint.f x0 x10).bind fun t => (if t = true then ((linear_CheckFarkas.f x0 x14).bind fun t2 => (some (!t2))) else (some true))) = some true := by
  unfold linear_CheckPoint.f linear_CheckFarkas.f
  rw [if_pos ⟨h0, h1⟩, if_pos ⟨h0, h2⟩, Option.bind_some]
  by_cases hp : chkP x0 x10 = true
  · rw [if_pos hp, Option.bind_some]
    by_cases hf : chkF x0 x14 = true
    · unfold chkP at hp
      rw [Bool.and_eq_true] at hp
      rw [chkF_is] at hf
      exact (never hp.2 hf).elim
    · rw [Bool.not_eq_true] at hf
      rw [hf]; rfl
  · rw [if_neg hp]
theorem l1_is (x0 : List S38) (x3 : List Int) (x10 : List S29) (h0 : ∀ r, r ∈ x0 → RowIn r) (h1 : ∀ x, x ∈ x10 → RatIn x) : ∀ (d i k : Nat) (acc : List Int), i + d = min x3.length 30 → acc.length = i → (∀ x, x ∈ acc → In64 x) → d < k → ashlarlaw11_LinearNever.l1 k x0 x3 true x10 acc (i : Int) = some true
  | 0, i, k + 1, acc, hi, ha, h2, hk => by
    rw [ashlarlaw11_LinearNever.l1]
    by_cases h : (i : Int) < (x3.length : Int)
    · rw [if_pos h, if_neg (by omega), if_pos rfl]; exact fin h0 h1 h2
    · rw [if_neg h, if_pos rfl]; exact fin h0 h1 h2
  | d + 1, i, k + 1, acc, hi, ha, h2, hk => by
    rw [ashlarlaw11_LinearNever.l1, if_pos (by omega), if_pos (by omega), if_pos (by omega), if_pos (by omega), show wrap64 ((i : Int) + 1) = ((i + 1 : Nat) : Int) from wrapj (by omega)]
    refine l1_is x0 x3 x10 h0 h1 d (i + 1) k _ (by omega) (by simp [ha]) (fun x hx => ?_) (by omega)
    rcases List.mem_append.1 hx with h | h
    · exact h2 x h
    · rw [List.mem_singleton.1 h]; exact wrap_in64 _
theorem l0_is (x0 : List S38) (p q x3 : List Int) (h0 : ∀ r, r ∈ x0 → RowIn r) : ∀ (d i k : Nat) (acc : List S29), i + d = min (min p.length q.length) 70 → acc.length ≤ i → (∀ x, x ∈ acc → RatIn x) → 2 * d + 40 < k → ashlarlaw11_LinearNever.l0 k x0 p q x3 true acc (i : Int) = some true
  | 0, i, k + 2, acc, hi, ha, h1, hk => by
    rw [ashlarlaw11_LinearNever.l0]
    have hj : ashlarlaw11_LinearNever.j1 (k + 1) x0 p q x3 true acc (i : Int) false = some true := by
      rw [ashlarlaw11_LinearNever.j1, if_neg (by decide)]
      exact l1_is x0 x3 acc h0 h1 (min x3.length 30) 0 k [] (by omega) rfl (fun x hx => by cases hx) (by omega)
    by_cases a : (i : Int) < (p.length : Int)
    · rw [if_pos a]
      by_cases b : (i : Int) < (q.length : Int)
      · rw [if_pos b, show decide ((i : Int) < 70) = false from decide_eq_false (by omega)]; exact hj
      · rw [if_neg b]; exact hj
    · rw [if_neg a]; exact hj
  | d + 1, i, k + 2, acc, hi, ha, h1, hk => by
    rw [ashlarlaw11_LinearNever.l0, if_pos (by omega), if_pos (by omega), show decide ((i : Int) < 70) = true from decide_eq_true (by omega), ashlarlaw11_LinearNever.j1, if_pos rfl, if_pos (by omega), if_pos (by omega), if_pos (by omega)]
    unfold num_Make.f
    rw [if_pos ⟨wrap_in64 _, wrap_in64 _⟩, Option.bind_some, show wrap64 ((i : Int) + 1) = ((i + 1 : Nat) : Int) from wrapj (by omega)]
    obtain ⟨⟨x, y, b⟩, hm⟩ : ∃ r, mk (wrap64 (rd p (i : Int))) (wrap64 (rd q (i : Int))) = r := ⟨_, rfl⟩
    have hin := mk_in (wrap64 (rd p (i : Int))) (wrap64 (rd q (i : Int)))
    rw [hm] at hin ⊢
    cases b with
    | true =>
      rw [if_pos rfl, if_pos (by omega)]
      refine l0_is x0 p q x3 h0 d (i + 1) k _ (by omega) (by simp; omega) (fun z hz => ?_) (by omega)
      rcases List.mem_append.1 hz with h | h
      · exact h1 z h
      · rw [List.mem_singleton.1 h]; exact hin
    | false =>
      rw [if_neg (show ¬ (false = true) by decide)]
      exact l0_is x0 p q x3 h0 d (i + 1) k _ (by omega) (by omega) h1 (by omega)
theorem rowIn_wf {r : S38} (h : RowWf r) : RowIn r := ⟨in64_wf h.1, fun x hx => in64_wf (h.2 x hx)⟩
theorem LinearNever (l : List S38) (p q ws : List Int) (h : ∀ r, r ∈ l → RowWf r) : ∃ k, ashlarlaw11_LinearNever.f k l p q ws = some true := by
  refine ⟨200, ?_⟩
  unfold ashlarlaw11_LinearNever.f
  rw [ashlarlaw11_shown.f, Option.bind_some, ashlarlaw11_few.f, Option.bind_some]
  exact l0_is (fewL l) p q ws (rowIn_few fun r hr => rowIn_wf (h r hr)) (min (min p.length q.length) 70) 0 200 [] (by omega) (Nat.le_refl _) (fun x hx => by cases hx) (by omega)

end Go.Proofs.Ytdkbnbebioflaaa.PLinearNever
