/- linear.may. -/
import Derived.Test.YtdkbnbebioflaaaLnJP
namespace Go.Proofs
theorem Z1n0 {p : Prop} (h : p := by repeat (first | exact Below.refl _ _ | with_reducible assumption | refine Below.alloc ?_ (by first | exact Nat.le_refl _ | (simp; done) | (simp; omega) | omega) _ | refine Below.setCell ?_ (by first | exact Nat.le_refl _ | (simp; done) | (simp; omega) | omega) _ | refine Below.drew ?_ | refine bdrewN ?_ _)) : p := h
theorem Z1n1 {p : Prop} (h : p := by first | exact Nat.le_refl _ | (simp; done) | (simp; omega) | omega) : p := h
end Go.Proofs
namespace Go.Proofs.Ytdkbnbebioflaaa.Ln
open Go.RowKit Go.Proofs.Ytdkbnbebioflaaa.Num Go.Proofs.Ytdkbnbebioflaaa.Given Go.Proofs.Ytdkbnbebioflaaa.Lin Go.Proofs.YtdkbnbebioflaaaW.PrintWords
set_option linter.unusedVariables false
set_option linter.unusedSimpArgs false

def mayB (l : List S38) (v : Int) : Bool :=
  if 0 ≤ v then if v ≤ 64 then if (l.length : Int) ≤ 256 then !(l.any fun x => !((x.f0.length : Int) == v)) else false else false else false
theorem mayB_is (l : List S38) (v : Int) : mayB l v = mayQ (l.map toZ) v := by
  unfold mayB mayQ
  have e3 : ((l.map toZ).all fun q => decide ((q.1.length : Int) = v)) = !(l.any fun x => !((x.f0.length : Int) == v)) := by
    rw [List.all_map, List.all_eq_not_any_not]
    have : (fun x : S38 => !((fun q : RowZ => decide ((q.1.length : Int) = v)) ∘ toZ) x) = fun x => !((x.f0.length : Int) == v) := by
      funext x
      show (!decide ((x.f0.length : Int) = v)) = _
      by_cases h : (x.f0.length : Int) = v
      · simp [h]
      · simp [h]
    rw [this]
  rw [e3, List.length_map]
  by_cases h0 : 0 ≤ v
  · by_cases h1 : v ≤ 64
    · by_cases h2 : (l.length : Int) ≤ 256
      · rw [if_pos h0, if_pos h1, if_pos h2]; simp [h0, h1, show l.length ≤ 256 by omega]
      · rw [if_pos h0, if_pos h1, if_neg h2]; simp [h0, h1, show ¬ l.length ≤ 256 by omega]
    · rw [if_pos h0, if_neg h1]; simp [h0, h1]
  · rw [if_neg h0]; simp [h0]

set_option maxHeartbeats 8000000 in
set_option maxRecDepth 100000 in
theorem may_any (l : List S38) (v : Int) (A : Option Addr) (c : Nat) (w : World) (hC : Kd.C k38 w A l.length l) (hc : l.length ≤ c) :
    Calls Try.prog 31 #[.slice A l.length c, .int .i64 v] w fun e w' => e = .returned (.bool (mayB l v)) ∧ Below w.heap.size w w' := by
  have hmf := run_makeFunc
  have HR := Lib.hid (fun nb w2 (hB : Below w.heap.size w w2) (hnb : w2.cell? ⟨nb, 0, none⟩ = some (.int .i64 v)) => anyM (fun x => !((x.f0.length : Int) == v)) l A c (.pointer (some ⟨nb, 0, none⟩)) w w2 hC hc hB (fun x hx B d W hW => may1_any x B d nb v W (kcell hW hnb)))
  clear hC
  unfold mayB
  by_cases h0 : 0 ≤ v
  · by_cases h1 : v ≤ 64
    · by_cases h2 : (l.length : Int) ≤ 256
      · rw [if_pos h0, if_pos h1, if_pos h2]
        have e0 : decide (0 ≤ v) = true := decide_eq_true h0
        have e1 : decide (v ≤ 64) = true := decide_eq_true h1
        have e2 : decide ((l.length : Int) ≤ 256) = true := decide_eq_true h2
        clear h0 h1 h2
        go_enter Try.func31, Try.ntmps31
        go_wp2_with fail
        refine (HR.out _ _ ?_ ?_).mono ?_
        · exact Z1n0
        · exact blk_cell (blk_new w _) 0
        rintro e w1 ⟨rfl, hb1⟩
        go_wp2
        go_ret
        exact ⟨rfl, by refine Below.trans ?_ (hb1.mono Z1n1); exact Z1n0⟩
      · rw [if_pos h0, if_pos h1, if_neg h2]
        have e0 : decide (0 ≤ v) = true := decide_eq_true h0
        have e1 : decide (v ≤ 64) = true := decide_eq_true h1
        have e2 : decide ((l.length : Int) ≤ 256) = false := decide_eq_false h2
        clear h0 h1 h2
        go_enter Try.func31, Try.ntmps31
        go_wp2
        go_ret
        exact ⟨rfl, Z1n0⟩
    · rw [if_pos h0, if_neg h1]
      have e0 : decide (0 ≤ v) = true := decide_eq_true h0
      have e1 : decide (v ≤ 64) = false := decide_eq_false h1
      clear h0 h1
      go_enter Try.func31, Try.ntmps31
      go_wp2
      go_ret
      exact ⟨rfl, Z1n0⟩
  · rw [if_neg h0]
    have e0 : decide (0 ≤ v) = false := decide_eq_false h0
    clear h0
    go_enter Try.func31, Try.ntmps31
    go_wp2
    go_ret
    exact ⟨rfl, Z1n0⟩

end Go.Proofs.Ytdkbnbebioflaaa.Ln
