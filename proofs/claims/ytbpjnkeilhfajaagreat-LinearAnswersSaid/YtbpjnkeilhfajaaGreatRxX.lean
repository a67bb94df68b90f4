/- What a second law over this base stands on beside it. -/
import Derived.Test.YtbpjnkeilhfajaaGreatDigA
import Derived.Test.YtbpjnkeilhfajaaGreatDigNumReckons
import Derived.Test.YtbpjnkeilhfajaaGreatLinT
import Derived.Test.YtbpjnkeilhfajaaGreatNumA
import Derived.Test.YtbpjnkeilhfajaaGreatNumE
import Derived.Test.YtbpjnkeilhfajaaGreatNumJ
import Derived.Test.YtbpjnkeilhfajaaGreatNumT
import Derived.Test.YtbpjnkeilhfajaaGreatRefA
import Derived.Test.YtbpjnkeilhfajaaGreatRfA
import Derived.Test.YtbpjnkeilhfajaaGreatRfC
import Derived.Test.YtbpjnkeilhfajaaGreatRfG
import Derived.Test.YtbpjnkeilhfajaaGreatRows
import Derived.Test.YtbpjnkeilhfajaaGreatTk
import Derived.Test.YtbpjnkeilhfajaaGreatTl
import Derived.Test.YtbpjnkeilhfajaaGreatWMore
import Derived.Test.YtbpjnkeilhfajaaGreatWWords
import Derived.Below
import Derived.Deep.Draws
import Derived.Deep.AppendLies
import Derived.Maps.AppendAt
import Derived.OwnWalk
import Derived.Laws.BytesArg
import Derived.Laws.MakeOwn
import Derived.Laws.OwnMore
import Derived.Deep.OwnRows
import Derived.Tactics
import Derived.Lib.ConvBytes
import Derived.Laws.Slices
import Derived.WalkKit
import Derived.KernelRfl
import Derived.RowKit3
import Derived.Deep.LoopGhost
import Derived.Deep.QuietTactic
import Derived.BigQuiet
import Derived.WideLaws
import Derived.Deep.DeepCutAuto
import Derived.Deep.CutBlock
import Derived.Deep.RegionHeld3
import Derived.Laws.Rows
import Derived.Lib.AppendStr
import Derived.ArgAppend
import Derived.Laws.IdiomCopy
import Derived.RowKit
-- PRINTED BY print.sh 35421559b90ae4d0a3588c463048766b98c2df88dd9212a6774a882060cdf62d: not written by this session
-- PRINTED WORDS (module Derived/Print/Words.lean): go-wishes' parts 1 to 38 and go-gate-2's additions: AI agents of Go's test side, Mon Nov 16 2026; no person has read them. Plain theorems and definitions: no macro, no elab, no axiom.
set_option linter.unusedVariables false
set_option linter.unusedSimpArgs false
namespace Go.Proofs.YtbpjnkeilhfajaaGreatW.PrintWords
open Go.RowKit

/-! ### 1. Values and lists -/
/-! ### 2. The world -/
/-! ### 3. A slice of whole numbers that is read; nil, empty and other slices alike -/
/-! ### 4. A row of the call's own -/
/-! ### 5. append(v, x): behind 'at_builtin'; the goal's world is 'W.alloc' of the variadic's box -/
section
variable {P : Program} {ops : Array Oper} {rest : List Oper} {o : Oper} {a : Act} {Q : Exit → Act → World → Prop}

end

/-! ### 6. make([]T, n), n an Int; a literal -/
section
variable {P : Program}
end
/-! ### 7. v[i] read and v[i] = x, v a row of the call's own: 'obtain ⟨g, cap, rfl, hgb, hgl⟩ := HO.out.form (by omega)' first -/
/-! ### 8. append(v, ys...): ys a slice that is read, nil let in; behind 'at_builtin' -/
section
variable {P : Program} {ops : Array Oper} {rest : List Oper} {o : Oper} {a : Act} {Q : Exit → Act → World → Prop}
end

/-! ### 9. []byte(s): a slice that is read (its row bears a conversion's mark: no row of one's own); cuts of a slice that is read -/
/-! ### 10. Rounds: more rounds give the same answer; what ends gives a number of rounds -/
/-! ### 11. Rows of elements of several cells (structs): read, made. R: what an element's cells say ('RepItem w': printed for each type) -/
section
variable {P : Program} {ops : Array Oper} {rest : List Oper} {o : Oper} {a : Act} {Q : Exit → Act → World → Prop}
end

/-! ### 12. A block of one's own that is a state: its cells, what a store leaves -/
/-! ### 13. Two states at once: what a call on the state at block g (its row before: 'row') has turned -/
/-! ### 10b. From some number of rounds on -/
/-! ### 14. append as_ one step of a region that draws its order: for 'go_region_law' (and a region walked by hand) -/
section
variable {P : Program} {ops : Array Oper} {o : Oper} {a : Act} {Q : Exit → Act → World → Prop} {K : Act → World → Prop}
end
/-! ### 15. A row's base may be lowered -/
/-! ### 16. Parts 3 to 9 for ANY element of one cell: 'enc' (Value.int k, Value.string, Value.bool), a default 'd' -/
section
variable {α : Type} {enc : α → Value} {d : α}
end
section
variable {α : Type} {P : Program} {ops : Array Oper} {rest : List Oper} {o : Oper} {a : Act} {Q : Exit → Act → World → Prop}
end

/-! ### 17. Rows of one element type held at once: no two share a block -/
/-! ### 18. A block behind a new one; behind a draw -/
/-! ### 19. Results that lie in memory beside others -/
section
variable {P : Program}
end
/-! ### 20. Rows of elements of any kind: R is what an element's cells say -/
section
variable {α : Type} {R R' : α → List Value → Prop} {e : TypeId} {size : Nat} {w w1 : World} {base : Nat} {v : Value} {ps : List α}
end
section
variable {P : Program} {ops : Array Oper} {rest : List Oper} {o : Oper} {a : Act} {Q : Exit → Act → World → Prop} {α : Type} {R : α → List Value → Prop}
end
section
variable {P : Program} {ops : Array Oper} {o : Oper} {a : Act} {Q : Exit → Act → World → Prop} {K : Act → World → Prop} {α : Type} {R : α → List Value → Prop}
end
/-! ### 21. Cuts of a slice that came in, lengths spelled as_ the lists' -/
section
variable {α : Type} {P : Program}
end

/-! ### 22. append([]byte, s...), s a string; behind 'at_builtin'. (No word on where the new row lies: two rows of bytes at once don't go by it.) -/
section
variable {P : Program} {ops : Array Oper} {rest : List Oper} {o : Oper} {a : Act} {Q : Exit → Act → World → Prop}
end
/-! ### 23. KINDS: what a value's cells say, read (K) and made (M), kind by kind; every mover proved once -/
namespace Kd
section
variable {α : Type} {d : Kd α} {e : Nat} {w w1 : World} {base : Nat} {ok ok' : Nat → Prop} {v : Value} {xs : List α}
end

/-! #### the kinds -/
/-! #### an element of a row that is read; an element appended -/
section
variable {P : Program} {ops : Array Oper} {rest : List Oper} {o : Oper} {a : Act} {Q : Exit → Act → World → Prop} {α : Type}
end
section
variable {P : Program} {ops : Array Oper} {o : Oper} {a : Act} {Q : Exit → Act → World → Prop} {Kc : Act → World → Prop} {α : Type}
end
end Kd
/-! ### 24. Kinds nested in themselves -/
namespace Kd
section
variable {α : Type} {F : Kd α → Kd α} {sz : Nat} {E : List Nat} {hs : ∀ n, (upto F sz E n).sz = sz} {hE : ∀ n q, q ∈ (upto F sz E n).E → q ∈ E}
end
end Kd
/-! ### 25. What is held while another row is written: 'ok' says that its rows are none of that row's block -/
namespace Kd
end Kd
/-! ### 26. Words for a printer that takes every slice by its kind -/
namespace Kd
section
variable {α β : Type} {d : Kd α} {d' : Kd β} {e e' : Nat} {w w1 W : World} {base b b' : Nat} {ok ok' okv oku : Nat → Prop} {v u : Value} {xs : List α} {ys : List β}
end
/-! #### scalars -/
section
variable {w W : World} {A : Option Addr} {n : Nat}
variable {α : Type} {enc : α → Value} {h1 : ∀ x, (enc x).oneCell' = true} {e base g cap : Nat} {ok : Nat → Prop} {xs : List α}
end

/-! #### events: a letter for what make and a literal leave -/
section
variable {P : Program} {ops : Array Oper} {rest : List Oper} {o : Oper} {a : Act} {Q : Exit → Act → World → Prop}
variable {α : Type}
end
end Kd
/-! ### 27. Cuts of a row of one's own: 'xs = xs[:n]' stays a row (R_take); 'xs = xs[k:]' is a row that begins inside its block (Kd.Q), append goes on it too -/
section
variable {P : Program}
end
section
variable {w w1 : World} {base n size : Nat} {e : TypeId} {v : Value} {xs : List Value}
end
section
variable {P : Program}
end
/-! ### 28. The kinds' words for cuts: R_take; Q (a row that may begin inside its block) with all of R's movers -/
namespace Kd
section
variable {α : Type} {d : Kd α} {e : Nat} {w w1 W : World} {base : Nat} {ok ok' : Nat → Prop} {v : Value} {xs : List α}
end
section
variable {P : Program} {ops : Array Oper} {rest : List Oper} {o : Oper} {a : Act} {Q' : Exit → Act → World → Prop} {Kc : Act → World → Prop} {α : Type}
end
end Kd
/-! ### 29. Movers that ask of another row no more than they need: for R and for Q -/
namespace Kd
section
variable {α : Type} {d : Kd α} {e e' : Nat} {w w1 W : World} {base : Nat} {ok : Nat → Prop} {u v : Value} {xs : List α}
end
end Kd
/-! ### 30. Elements written: x[i] = T{..}, x[i].f = v, swaps, in a row of elements of any kind -/
namespace Kd
section
variable {α : Type} {d : Kd α} {e base g n cap : Nat} {ok okp : Nat → Prop} {W : World} {xs : List α}
end
end Kd
/-! ### 31. What came in, put into what is made: 'fixed d w0' (read in w0, whatever happens since), 'or_ a b', 'mix' (a slice that came in, or one that is made) -/
namespace Kd
section
variable {α : Type} {F : Kd α → Kd α} {sz : Nat} {E : List Nat} {hs : ∀ n, (upto F sz E n).sz = sz} {hE : ∀ n q, q ∈ (upto F sz E n).E → q ∈ E}
end
end Kd
/-! ### 32. A whole row appended, of elements of any kind; copy onto a row of scalars of one's own -/
namespace Kd
section
variable {P : Program} {ops : Array Oper} {rest : List Oper} {o : Oper} {a : Act} {Q : Exit → Act → World → Prop} {α : Type}
end
end Kd
/-! ### 33. A store into a row of one's own, as_ an event: no go_simp -/
namespace Kd
section
variable {P : Program} {ops : Array Oper} {rest : List Oper} {o : Oper} {a : Act} {Q : Exit → Act → World → Prop} {α : Type}
end
end Kd
/-! ### 34. Cuts that are only read, of any row -/
namespace Kd
section
variable {α : Type} {k : Kd α} {w : World} {A : Option Addr} {xs : List α} {m c : Nat}
end
end Kd
section
variable {P : Program}
end
/-! ### 35. string(b), b read (a cut too) -/
/-! ### 6. What the printer adds -/
theorem below_drew1 {base : Nat} {w W : World} (h : Below base w W) : Below base w W.drew := h.drew
namespace Kd
section
variable {α β : Type} {d : Kd α} {d' : Kd β} {e e' base base' n : Nat} {ok ok' : Nat → Prop} {w W w1 W1 : World} {v u : Value} {xs : List α} {ys : List β} {A : Option Addr} {c : Nat}
end
section
variable {α : Type} {enc : α → Value} {h1 : ∀ x, (enc x).oneCell' = true} {w W : World} {A : Option Addr} {n g : Nat} {xs : List α}
end
end Kd
namespace Kd
section
variable {α : Type} {d : Kd α} {e base g : Nat} {ok : Nat → Prop} {w w1 : World} {v : Value} {xs : List α} {o : Obj}
end
end Kd
section
variable {P : Program} {ops : Array Oper} {rest : List Oper} {o : Oper} {a : Act} {Q : Exit → Act → World → Prop}
end
namespace Kd
section
variable {α : Type} {enc : α → Value} {h1 : ∀ x, (enc x).oneCell' = true} {e base g n cap : Nat} {ok : Nat → Prop} {W : World} {xs : List α}
end
end Kd
section
variable {P : Program} {ops : Array Oper} {rest : List Oper} {o : Oper} {a : Act} {Q : Exit → Act → World → Prop}
end
namespace Kd
section
variable {α : Type} {enc : α → Value} {h1 : ∀ x, (enc x).oneCell' = true} {e base g n cap : Nat} {ok : Nat → Prop} {W : World} {xs : List α}
end
end Kd
section
variable {P : Program} {ops : Array Oper} {rest : List Oper} {o : Oper} {a : Act} {Q : Exit → Act → World → Prop} {W : World}
end
/-! ### 36. Events as_ one step of a region that draws (for one_, two_, three_) -/
section
variable {P : Program} {ops : Array Oper} {o : Oper} {a : Act} {Q : Exit → Act → World → Prop} {Kc : Act → World → Prop}
namespace Kd
variable {α : Type}
end Kd
end
/-! ### 37. Results of any shape -/
section
variable {P : Program} {tmps : Array Value} {w : World}
end
/-! ### 38. 'out = append(out[:k], out[k+1:]...)': an element taken out of a row of one's own, in place -/
namespace Kd
section
variable {P : Program} {α : Type}
end
section
variable {P : Program} {ops : Array Oper} {rest : List Oper} {o : Oper} {a : Act} {Q : Exit → Act → World → Prop} {Kc : Act → World → Prop} {α : Type}
end
end Kd

end Go.Proofs.YtbpjnkeilhfajaaGreatW.PrintWords
/- Plain law: what the document's digits reckon (law NumReckons). -/
namespace Go.Proofs.YtbpjnkeilhfajaaGreat.DigNumReckons
set_option linter.unusedVariables false
set_option linter.unusedSimpArgs false
open Go.RowKit Go.Proofs.YtbpjnkeilhfajaaGreat.Given Go.Proofs.YtbpjnkeilhfajaaGreat.PNumReckons Go.Proofs.YtbpjnkeilhfajaaGreatW.PrintWords Go.Proofs.YtbpjnkeilhfajaaGreatW.PrintMore Go.Proofs.YtbpjnkeilhfajaaGreat.Ref Go.Proofs.YtbpjnkeilhfajaaGreat.Dig Go.Proofs.YtbpjnkeilhfajaaGreat.Num

/-- The rounds for one digit. -/
theorem over_l1 {a : List Int} {n : Nat} (hn : n ≠ 0) (ln : (dg n).length ≤ 1000) (ab bb : Bool) (res : Bool × List Int × Bool × List Int) (i : Nat) (li : i ≤ 1000) (R0 : Nat) (hR : R0 < 10 * n) (q : List Int)
    (K : Frm (fun k => ashlarref01_Over.l0 k (List.replicate i 0 ++ ((R0 / n : Nat) : Int) :: q) ((i : Int) - 1) ab a bb (dg n) false (dg (R0 % n))) res) :
    ∀ m c R : Nat, R / n = m → R + c * n = R0 → Frm (fun k => ashlarref01_Over.l1 k (List.replicate i 0 ++ (c : Int) :: q) (i : Int) ab a bb (dg n) false (dg R)) res
  | m, c, R, hm, hc => by
    have lR : (dg R).length ≤ 1001 := by
      have h1 := val_lt (dg_dig n)
      rw [dg_val] at h1
      have h3 : R < 10 ^ ((dg n).length + 1) := by
        have : (n : Int) < ((10 ^ (dg n).length : Nat) : Int) := by rw [Int.natCast_pow]; exact h1
        have h4 : n < 10 ^ (dg n).length := by omega
        have : R ≤ R0 := by have := Nat.zero_le (c * n); omega
        rw [Nat.pow_succ]; omega
      have := dg_len h3
      omega
    have sz := cmp_size (m := R) (n := n) (by omega) (by omega)
    have ew : wrap64 ((i : Int) - 1) = (i : Int) - 1 := wrap64_in (by omega) (by omega)
    apply Frm.succ
    simp only [ashlarref01_Over.l1, ew]
    refine Frm.bind (f := fun k t138 => (if t138 ≥ 0 then ((ashlarref01_apart.f k (dg R) (dg n)).bind fun t139 => ((ashlarref01_cut.f false t139).bind fun bt142 => (if 0 ≤ (i : Int) then (if (i : Int) < ((List.replicate i 0 ++ (c : Int) :: q).length : Int) then (ashlarref01_Over.l1 k ((List.replicate i 0 ++ (c : Int) :: q).set ((i : Int) : Int).toNat (wrap64 ((rd (List.replicate i 0 ++ (c : Int) :: q) (i : Int)) + 1))) (i : Int) ab a bb (dg n) bt142.1 bt142.2) else (none)) else (none)))) else (ashlarref01_Over.l0 k (List.replicate i 0 ++ (c : Int) :: q) ((i : Int) - 1) ab a bb (dg n) false (dg R)))) sz ?_
    by_cases hge : n ≤ R
    · have hdiv : R / n = (R - n) / n + 1 := by
        have : R = (R - n) + n := by omega
        rw [this, Nat.add_div_right _ (by omega)]; simp
      have c9 : c ≤ 9 := by
        rcases Nat.lt_or_ge 9 c with h | h
        · have := Nat.mul_le_mul_right n h; omega
        · exact h
      have ih := over_l1 hn ln ab bb res i li R0 hR q K ((R - n) / n) (c + 1) (R - n) rfl (by rw [Nat.add_mul]; omega)
      obtain ⟨r, h1, h2, h3, h4⟩ := apart_ev (dg_dig R) (dg_dig n) (by omega) (by rw [dg_val, dg_val]; omega)
      rw [dg_val, dg_val] at h3
      have hcut := cut_f false h2 (by omega) (n := R - n) (by omega)
      have eg : rd (List.replicate i 0 ++ (c : Int) :: q) (i : Int) = c := by simp [rd]
      have es : (List.replicate i 0 ++ (c : Int) :: q).set i ((c + 1 : Nat) : Int) = List.replicate i 0 ++ ((c + 1 : Nat) : Int) :: q := by
        rw [List.set_append_right _ _ (by simp)]; simp
      have ew2 : wrap64 ((c : Int) + 1) = ((c + 1 : Nat) : Int) := wrap64_in (by omega) (by omega)
      have hlen : (i : Int) < ((List.replicate i 0 ++ (c : Int) :: q).length : Int) := by simp; omega
      have key := Frm.bind (f := fun k t139 => ((ashlarref01_cut.f false t139).bind fun bt142 => (if 0 ≤ (i : Int) then (if (i : Int) < ((List.replicate i 0 ++ (c : Int) :: q).length : Int) then (ashlarref01_Over.l1 k ((List.replicate i 0 ++ (c : Int) :: q).set ((i : Int) : Int).toNat (wrap64 ((rd (List.replicate i 0 ++ (c : Int) :: q) (i : Int)) + 1))) (i : Int) ab a bb (dg n) bt142.1 bt142.2) else (none)) else (none)))) h1 (r := res) (by
        simp only [hcut, Option.bind_some, eg, ew2, es, Int.toNat_natCast, Bool.false_and]
        refine ih.congr fun k => ?_
        rw [if_pos (by omega), if_pos hlen])
      refine key.congr fun k => ?_
      rw [if_pos (ge_cmp.2 (by omega))]
    · have hc' : c = R0 / n ∧ R = R0 % n := by
        have : R0 / n = c := Nat.div_eq_of_lt_le (by omega) (by rw [Nat.add_mul]; omega)
        refine ⟨this.symm, ?_⟩
        have := Nat.div_add_mod R0 n
        have e : n * (R0 / n) = c * n := by rw [Nat.mul_comm]; congr 1
        omega
      obtain ⟨rfl, rfl⟩ := hc'
      refine K.congr fun k => ?_
      rw [if_neg (fun h => by have := ge_cmp.1 h; omega)]
termination_by m => m
decreasing_by omega

theorem over_l0 {a : List Int} (ha : Dig a) (la : a.length ≤ 1000) {n : Nat} (hn : n ≠ 0) (ln : (dg n).length ≤ 1000) (ab bb : Bool) : ∀ (i : Nat) (q : List Int), i + q.length = a.length → Dig q → val q = val (a.drop i) / n →
    Frm (fun k => ashlarref01_Over.l0 k (List.replicate i 0 ++ q) ((i : Int) - 1) ab a bb (dg n) false (dg ((val (a.drop i)).toNat % n))) (false, dg ((val a).toNat / n), false, dg ((val a).toNat % n))
  | 0, q, hq, hd, hv => by
    have h0 := val_nonneg ha
    have hcut := cut_f false hd (by omega) (n := (val a).toNat / n) (by rw [hv, List.drop_zero]; have := Int.toNat_of_nonneg h0; rw [Int.natCast_ediv, this])
    apply Frm.succ
    refine Frm.const fun k => ?_
    simp only [ashlarref01_Over.l0, List.replicate_zero, List.nil_append, List.drop_zero]
    rw [if_neg (by omega), hcut]; rfl
  | i + 1, q, hq, hd, hv => by
    have hlt : i < a.length := by omega
    have h0 := val_nonneg (dig_drop ha (i + 1))
    have e1 := val_drop a i
    have d1 := getD_dig ha i
    generalize hA : val (a.drop (i + 1)) = A at *
    generalize hx : a.getD i 0 = x at *
    obtain ⟨A, rfl⟩ := Int.eq_ofNat_of_zero_le h0
    obtain ⟨x, rfl⟩ := Int.eq_ofNat_of_zero_le d1.1
    have eB : val (a.drop i) = ((x + 10 * A : Nat) : Int) := by rw [e1]; omega
    have hmod : (x + 10 * A) % n = (x + 10 * (A % n)) % n := by
      rw [Nat.add_mod, Nat.mul_mod, Nat.add_mod x (10 * (A % n)), Nat.mul_mod 10 (A % n), Nat.mod_mod]
    have hdv : (x + 10 * A) / n = (x + 10 * (A % n)) / n + 10 * (A / n) := by
      have h := Nat.div_add_mod A n
      have : x + 10 * A = (x + 10 * (A % n)) + n * (10 * (A / n)) := by
        have : 10 * A = 10 * (n * (A / n) + A % n) := by rw [h]
        rw [this]; grind
      rw [this, Nat.add_mul_div_left _ _ (by omega)]
    have hml : A % n < n := Nat.mod_lt _ (by omega)
    have hR : x + 10 * (A % n) < 10 * n := by omega
    have hc9 : (x + 10 * (A % n)) / n ≤ 9 := by
      have : (x + 10 * (A % n)) / n < 10 := (Nat.div_lt_iff_lt_mul (by omega)).2 (by omega)
      omega
    have ih := over_l0 ha la hn ln ab bb i ((((x + 10 * (A % n)) / n : Nat) : Int) :: q) (by simp; omega) (dig_cons.2 ⟨⟨Int.natCast_nonneg _, by exact_mod_cast hc9⟩, hd⟩) (by
      simp only [val, hv, eB, hdv, Int.natCast_ediv, Int.natCast_add, Int.natCast_mul]
      have : ((((x + 10 * A : Nat) : Int)) / (n : Int)) = (((x + 10 * A) / n : Nat) : Int) := by rw [Int.natCast_ediv]
      have e2 := congrArg (fun z : Nat => (z : Int)) hdv
      simp only [Int.natCast_ediv, Int.natCast_add, Int.natCast_mul] at e2
      exact e2.symm)
    rw [eB, Int.toNat_natCast, hmod] at ih
    have in1 := over_l1 (a := a) hn ln ab bb _ i (by omega) (x + 10 * (A % n)) hR q ih _ 0 (x + 10 * (A % n)) rfl (by omega)
    have hdl : (dg (A % n)).length ≤ 1000 := by
      have h1 := val_lt (dg_dig n)
      rw [dg_val] at h1
      have : ((A % n : Nat) : Int) < ((10 ^ (dg n).length : Nat) : Int) := by rw [Int.natCast_pow]; exact Int.lt_trans (by omega) h1
      have := dg_len (n := A % n) (k := (dg n).length) (by omega)
      omega
    have hcut := cut_f false (l := (x : Int) :: dg (A % n)) (dig_cons.2 ⟨by omega, dg_dig _⟩) (by simp; omega) (n := x + 10 * (A % n)) (by simp only [val, dg_val]; omega)
    have ei : ((i + 1 : Nat) : Int) - 1 = (i : Int) := by omega
    have er : rd a (i : Int) = (x : Int) := by rw [← hx]; simp [rd]
    have erep : List.replicate (i + 1) (0 : Int) ++ q = List.replicate i 0 ++ ((0 : Nat) : Int) :: q := by
      rw [List.replicate_succ', List.append_assoc]; rfl
    apply Frm.succ
    refine in1.congr fun k => ?_
    simp only [ashlarref01_Over.l0, ei, Int.toNat_natCast]
    rw [if_pos (by omega), if_pos (by omega), if_pos (by omega)]
    simp only [er, Option.bind_some, List.singleton_append, hcut, Bool.false_and]
    rw [if_pos (by simp; omega), erep]

theorem over_ev {a : List Int} (ha : Dig a) (la : a.length ≤ 1000) {n : Nat} (hn : n ≠ 0) (ln : (dg n).length ≤ 1000) (ab bb : Bool) :
    Frm (fun k => ashlarref01_Over.f k ab a bb (dg n)) (false, dg ((val a).toNat / n), false, dg ((val a).toNat % n)) := by
  have := over_l0 ha la hn ln ab bb a.length [] (by simp) dig_nil (by rw [val_beyond (Nat.le_refl _)]; simp [val])
  refine this.congr fun k => ?_
  unfold ashlarref01_Over.f
  rw [if_pos (by omega), if_pos (by simp; omega), wrap64_in (by omega) (by omega), val_beyond (Nat.le_refl _)]
  simp [dg_zero]

theorem over_dg {m n : Nat} (hm : (dg m).length ≤ 1000) (hn : n ≠ 0) (ln : (dg n).length ≤ 1000) (ab bb : Bool) :
    Frm (fun k => ashlarref01_Over.f k ab (dg m) bb (dg n)) (false, dg (m / n), false, dg (m % n)) := by
  have := over_ev (dg_dig m) hm hn ln ab bb
  rwa [dg_val, Int.toNat_natCast] at this

theorem len_le {m n : Nat} {c : Nat} (h : m ≤ n) (hn : (dg n).length ≤ c) : (dg m).length ≤ c := by
  have h1 := val_lt (dg_dig n)
  rw [dg_val] at h1
  have : ((m : Nat) : Int) < ((10 ^ (dg n).length : Nat) : Int) := by rw [Int.natCast_pow]; exact Int.lt_of_le_of_lt (by omega) h1
  have := dg_len (n := m) (k := (dg n).length) (by omega)
  omega

theorem gcd_l0 : ∀ (n m : Nat), (dg m).length ≤ 1000 → (dg n).length ≤ 1000 → Frm (fun k => ashlarref01_Gcd.l0 k false (dg m) false (dg n)) (false, dg (Nat.gcd m n))
  | n, m, hm, hl => by
    by_cases h0 : n = 0
    · subst h0
      apply Frm.succ
      refine Frm.const fun k => ?_
      simp only [ashlarref01_Gcd.l0]
      rw [if_neg (by rw [dg_zero]; simp), Nat.gcd_zero_right]
    · have hlt : m % n < n := Nat.mod_lt _ (by omega)
      have ih := gcd_l0 (m % n) n hl (len_le (Nat.le_of_lt hlt) hl)
      have eg : Nat.gcd n (m % n) = Nat.gcd m n := by rw [Nat.gcd_comm n, ← Nat.gcd_rec, Nat.gcd_comm]
      rw [eg] at ih
      have ho := over_dg hm h0 hl false false
      apply Frm.succ
      have key := Frm.bind (f := fun k (bt153 : Bool × List Int × Bool × List Int) => ashlarref01_Gcd.l0 k false (dg n) bt153.2.2.1 bt153.2.2.2) ho ih
      refine key.congr fun k => ?_
      simp only [ashlarref01_Gcd.l0]
      rw [if_pos (by have := dg_len0 (n := n); omega)]
termination_by n => n
decreasing_by exact Nat.mod_lt _ (by omega)

theorem gcd_dg {m n : Nat} (hm : (dg m).length ≤ 1000) (hn : (dg n).length ≤ 1000) (ab bb : Bool) : Frm (fun k => ashlarref01_Gcd.f k ab (dg m) bb (dg n)) (false, dg (Nat.gcd m n)) := by
  unfold ashlarref01_Gcd.f
  exact gcd_l0 n m hm hn

theorem turn_dg {x : Int} (h : (dg x.natAbs).length ≤ 1000) : ashlarref01_Turn.f (decide (x < 0)) (dg x.natAbs) = some (decide (-x < 0), dg (-x).natAbs) := by
  unfold ashlarref01_Turn.f
  rw [cut_f _ (dg_dig _) (by omega) (dg_val _)]
  have e1 : (-x).natAbs = x.natAbs := by omega
  have e2 : (!decide (x < 0) && decide (x.natAbs ≠ 0)) = decide (-x < 0) := by
    by_cases a : x < 0
    · have : ¬ -x < 0 := by omega
      simp only [decide_eq_true a, decide_eq_false this]; rfl
    · by_cases b : x = 0
      · subst b; rfl
      · have : -x < 0 := by omega
        have h2 : x.natAbs ≠ 0 := by omega
        simp only [decide_eq_false a, decide_eq_true this, decide_eq_true h2]; rfl
  simp only [Option.bind_some, e1, e2]

end Go.Proofs.YtbpjnkeilhfajaaGreat.DigNumReckons
/- ashlarref01's Of, Int, Turn. -/
namespace Go.Proofs.YtbpjnkeilhfajaaGreat.Rf
open Go.RowKit Go.Proofs.YtbpjnkeilhfajaaGreat.Given Go.Proofs.YtbpjnkeilhfajaaGreat.PNumReckons Go.Proofs.YtbpjnkeilhfajaaGreatW.PrintWords Go.Proofs.YtbpjnkeilhfajaaGreatW.PrintLast Go.Proofs.YtbpjnkeilhfajaaGreatW.PrintMore Go.Proofs.YtbpjnkeilhfajaaGreat.Ref
set_option linter.unusedVariables false
set_option linter.unusedSimpArgs false

theorem Turn_any {b : Bool} {A : Option Addr} {c : Nat} {P : Nat → Prop} {l : List Int} {r1 : Bool} {r2 : List Int} {w : World} (hr : Kd.V (Kd.int .i64) 3 w w.heap.size P (.slice A l.length c) l) (h : ashlarref01_Turn.f b l = some (r1, r2)) :
    Calls Tryz.prog 133 #[.agg #[.bool b, .slice A l.length c]] w fun e w' => ∃ v, e = .returned (.agg #[.bool r1, v]) ∧ Kd.V (Kd.int .i64) 3 w' w.heap.size (fun k => P k ∨ w.heap.size ≤ k) v r2 ∧ Below w.heap.size w w' := by
  unfold ashlarref01_Turn.f at h
  obtain ⟨⟨x1, x2⟩, hx, h⟩ := Option.bind_eq_some_iff.1 h
  obtain ⟨rfl, rfl⟩ := Prod.mk.inj (Option.some.inj h)
  have HX := Lib.hid hx
  have HR := Lib.hid (Kd.V_bound hr)
  clear h hr hx
  go_enter Tryz.func133, Tryz.ntmps133
  go_wp2_with fail
  have HX0 := Lib.hid (show Bx ((w.alloc (.cells #[.bool b, .slice A l.length c] 91)).alloc (.cells #[.bool false, .slice none 0 0] 91)) (w.heap.size + 1) (.bool false) (.slice none 0 0) from blk_newk (by simp) _)
  have HB0 := Lib.hid (show Below w.heap.size w ((w.alloc (.cells #[.bool b, .slice A l.length c] 91)).alloc (.cells #[.bool false, .slice none 0 0] 91)) from (by repeat (first | exact Below.refl _ _ | with_reducible assumption | refine Below.alloc ?_ (by first | exact Nat.le_refl _ | (simp; done) | (simp; omega) | omega) _ | refine Below.setCell ?_ (by first | exact Nat.le_refl _ | (simp; done) | (simp; omega) | omega) _ | refine Below.drew ?_ | refine bdrewN ?_ _)))
  generalize (w.alloc (.cells #[.bool b, .slice A l.length c] 91)).alloc (.cells #[.bool false, .slice none 0 0] 91) = W at HX0 HB0 ⊢
  refine (ashlarref01_cut.calls (!b) _ A c l x1 x2 W (Kd.V_below HR.out HB0.out) HX.out).mono ?_
  rintro e w1 ⟨v1, rfl, hV, hb⟩
  obtain ⟨A1, n2, n1, rfl⟩ : ∃ A1 n2 n1, v1 = .slice A1 n2 n1 := by
    obtain ⟨A1, n1, hv, _⟩ := hV
    exact ⟨A1, _, n1, hv⟩
  have HV := Lib.hid hV
  have hWs := HX0.out.cells.2.2.2.2
  have HX1 := Lib.hid (HX0.out.keep hb hWs)
  obtain ⟨p0, p1, p2, p3, p4⟩ := HX1.out.cells
  obtain ⟨-, z0, z1⟩ := HX1.out.put (.bool x1) (.slice A1 n2 n1)
  have HB := Lib.hid (HB0.out.trans (hb.mono HB0.out.size))
  clear hV hb HX0 HX HR
  go_wp2
  refine bodyPost_ret (v := .agg #[.bool x1, .slice A1 n2 n1]) (by simp [results, Tryz.results133, go_sem, z0, z1]) rfl ⟨_, rfl, ?_, (HB.out.setCell (by simp) _).setCell (by simp) _⟩
  refine Kd.V_mono (Kd.V_far (Kd.V_far HV.out ?_ _) ?_ _) (fun k hk => hk.elim (fun h => .inl h.1) (fun h => .inr ?_))
  all_goals (try simp only []); try intro k hk
  all_goals omega
end Go.Proofs.YtbpjnkeilhfajaaGreat.Rf
/- Numbers of the document in memory, and what its functions make of them. -/
namespace Go.Proofs.YtbpjnkeilhfajaaGreat.Big
set_option linter.unusedVariables false
set_option linter.unusedSimpArgs false
open Go.RowKit Go.Proofs.YtbpjnkeilhfajaaGreat.Given Go.Proofs.YtbpjnkeilhfajaaGreat.PNumReckons Go.Proofs.YtbpjnkeilhfajaaGreatW.PrintWords Go.Proofs.YtbpjnkeilhfajaaGreatW.PrintMore Go.Proofs.YtbpjnkeilhfajaaGreat.Ref Go.Proofs.YtbpjnkeilhfajaaGreat.Dig Go.Proofs.YtbpjnkeilhfajaaGreat.DigNumReckons Go.Proofs.YtbpjnkeilhfajaaGreat.Num Go.Proofs.YtbpjnkeilhfajaaGreat.Rf

theorem Gcd_big {x y : Nat} {a b : Bool} {A B : Option Addr} {n m c d : Nat} (w : World) (hx : Row w A n c x) (hy : Row w B m d y) (lx : (dg x).length ≤ 1000) (ly : (dg y).length ≤ 1000) :
    Calls Tryz.prog 131 #[.agg #[.bool a, .slice A n c], .agg #[.bool b, .slice B m d]] w (Out w false (Nat.gcd x y)) := by
  obtain ⟨rfl, hX⟩ := hx
  obtain ⟨rfl, hY⟩ := hy
  obtain ⟨k0, h⟩ := gcd_dg lx ly a b
  refine (Gcd_any hX hY (h k0 (Nat.le_refl _))).mono ?_
  rintro e w' ⟨v, rfl, hv, hb⟩
  exact Out.mk' hv hb
def Out2 (w : World) (m k : Nat) (e : Ending) (w' : World) : Prop := ∃ A n c B i d, e = .returned (.tuple #[.agg #[.bool false, .slice A n c], .agg #[.bool false, .slice B i d]]) ∧ RowA w' w.heap.size A n c m ∧ RowA w' w.heap.size B i d k ∧ Below w.heap.size w w'
theorem Over_big {x y : Nat} {a b : Bool} {A B : Option Addr} {n m c d : Nat} (w : World) (hx : Row w A n c x) (hy : Row w B m d y) (lx : (dg x).length ≤ 1000) (y0 : y ≠ 0) (ly : (dg y).length ≤ 1000) :
    Calls Tryz.prog 132 #[.agg #[.bool a, .slice A n c], .agg #[.bool b, .slice B m d]] w (Out2 w (x / y) (x % y)) := by
  obtain ⟨rfl, hX⟩ := hx
  obtain ⟨rfl, hY⟩ := hy
  obtain ⟨k0, h⟩ := over_dg lx y0 ly a b
  obtain ⟨-, cx, rx⟩ := Kd.V_reads' hX
  obtain ⟨-, cy, ry⟩ := Kd.V_reads' hY
  refine (Over_any rx ry (h k0 (Nat.le_refl _))).mono ?_
  rintro e w' ⟨v, u, rfl, hv, hu, hb⟩
  obtain ⟨A1, n1, c1, rfl, h1⟩ := RowA.of (Kd.R_V (base' := 0) hv.toR)
  obtain ⟨A2, n2, c2, rfl, h2⟩ := RowA.of (Kd.R_V (base' := 0) hu.toR)
  exact ⟨A1, n1, c1, A2, n2, c2, rfl, h1, h2, hb⟩
theorem cut_big {x : Nat} {a b : Bool} {A : Option Addr} {n c : Nat} (w : World) (hx : Row w A n c x) (lx : (dg x).length ≤ 1000) (hb : (a && decide (x ≠ 0)) = b) :
    Calls Tryz.prog 108 #[.agg #[.bool a, .slice A n c]] w (Out w b x) := by
  subst hb
  obtain ⟨rfl, hX⟩ := hx
  refine (ashlarref01_cut.calls a (fun _ => True) A c _ _ _ w hX (cut_f a (dg_dig x) (by omega) (dg_val x))).mono ?_
  rintro e w' ⟨v, rfl, hv, hb⟩
  exact Out.mk' hv hb
end Go.Proofs.YtbpjnkeilhfajaaGreat.Big
/- ashlarref01.Make: its walk, along the numbers of its rows. -/
namespace Go.Proofs.YtbpjnkeilhfajaaGreat.Big
set_option linter.unusedVariables false
set_option linter.unusedSimpArgs false
open Go.RowKit Go.Proofs.YtbpjnkeilhfajaaGreatW.PrintWords Go.Proofs.YtbpjnkeilhfajaaGreat.Given Go.Proofs.YtbpjnkeilhfajaaGreat.Dig Go.Proofs.YtbpjnkeilhfajaaGreat.DigNumReckons Go.Proofs.YtbpjnkeilhfajaaGreat.Num

theorem gcd_len {p q : Nat} (hq : q ≠ 0) (lq : (dg q).length ≤ 1000) : (dg (Nat.gcd p q)).length ≤ 1000 := len_le (Nat.le_of_dvd (by omega) (Nat.gcd_dvd_right _ _)) lq
theorem low_P (p q : Int) : (if ((dn p != dn q) && decide (p.natAbs / Nat.gcd p.natAbs q.natAbs ≠ 0)) = true then -((p.natAbs / Nat.gcd p.natAbs q.natAbs : Nat) : Int) else ((p.natAbs / Nat.gcd p.natAbs q.natAbs : Nat) : Int)) = lowP p q := by
  have e1 : sz p / (Int.gcd p q : Int) = ((p.natAbs / Nat.gcd p.natAbs q.natAbs : Nat) : Int) := by rw [sz_abs, Int.natCast_ediv]; rfl
  unfold lowP
  rw [e1]
  show (if ((decide (p < 0) != decide (q < 0)) && decide (p.natAbs / Nat.gcd p.natAbs q.natAbs ≠ 0)) = true then _ else _) = if (decide (p < 0) != decide (q < 0)) = true then _ else _
  cases hs : (decide (p < 0) != decide (q < 0))
  · simp
  · by_cases hz : p.natAbs / Nat.gcd p.natAbs q.natAbs = 0
    · rw [hz]; simp
    · rw [decide_eq_true hz]; rfl
theorem low_Q (p q : Int) : (if false = true then -((q.natAbs / Nat.gcd p.natAbs q.natAbs : Nat) : Int) else ((q.natAbs / Nat.gcd p.natAbs q.natAbs : Nat) : Int)) = lowQ p q := by
  unfold lowQ
  rw [sz_abs, if_neg (by decide), Int.natCast_ediv]; rfl

theorem mk_fit {p q x y u v : Int} {b o1 o2 : Bool} (h0 : ¬ q = 0) (hM : mk p q = (x, y, b)) (h1 : fitp (lowP p q) = (u, o1)) (h2 : fitp (lowQ p q) = (v, o2)) : x = (if o1 && o2 then u else 0) ∧ y = (if o1 && o2 then v else 0) ∧ b = (o1 && o2) := by
  unfold mk In64 at hM
  unfold fitp at h1 h2
  rw [if_neg h0] at hM
  generalize lowP p q = P at *
  generalize lowQ p q = Q at *
  by_cases c1 : -9223372036854775808 ≤ P ∧ P < 9223372036854775808
  · rw [if_pos c1] at h1
    obtain ⟨rfl, rfl⟩ := Prod.mk.inj h1
    by_cases c2 : -9223372036854775808 ≤ Q ∧ Q < 9223372036854775808
    · rw [if_pos c2] at h2
      obtain ⟨rfl, rfl⟩ := Prod.mk.inj h2
      rw [if_pos ⟨c1, c2⟩] at hM
      obtain ⟨rfl, h3⟩ := Prod.mk.inj hM
      obtain ⟨rfl, rfl⟩ := Prod.mk.inj h3
      exact ⟨rfl, rfl, rfl⟩
    · rw [if_neg c2] at h2
      obtain ⟨rfl, rfl⟩ := Prod.mk.inj h2
      rw [if_neg (fun h => c2 h.2)] at hM
      obtain ⟨rfl, h3⟩ := Prod.mk.inj hM
      obtain ⟨rfl, rfl⟩ := Prod.mk.inj h3
      exact ⟨rfl, rfl, rfl⟩
  · rw [if_neg c1] at h1
    obtain ⟨rfl, rfl⟩ := Prod.mk.inj h1
    rw [if_neg (fun h => c1 h.1)] at hM
    obtain ⟨rfl, h3⟩ := Prod.mk.inj hM
    obtain ⟨rfl, rfl⟩ := Prod.mk.inj h3
    exact ⟨by cases o2 <;> rfl, by cases o2 <;> rfl, by cases o2 <;> rfl⟩

set_option maxHeartbeats 8000000 in
set_option maxRecDepth 100000 in
theorem Make_big {p q x y : Int} {b : Bool} {A B : Option Addr} {n m c d : Nat} (w : World) (hp : Row w A n c p.natAbs) (hq : Row w B m d q.natAbs) (lp : (dg p.natAbs).length ≤ 1000) (lq : (dg q.natAbs).length ≤ 1000) (hM : mk p q = (x, y, b)) :
    Calls Tryz.prog 120 #[.agg #[.bool (dn p), .slice A n c], .agg #[.bool (dn q), .slice B m d]] w fun e w' => e = .returned (.tuple #[.int .i64 x, .int .i64 y, .bool b]) ∧ Below w.heap.size w w' := by
  by_cases h0 : q = 0
  · subst h0
    have hm : m = 0 := by have := hq.1; simpa [dg_zero] using this
    unfold mk at hM
    rw [if_pos rfl] at hM
    obtain ⟨rfl, h1⟩ := Prod.mk.inj hM
    obtain ⟨rfl, rfl⟩ := Prod.mk.inj h1
    subst hm
    clear hM h1
    go_enter Tryz.func120, Tryz.ntmps120
    go_wp2
    go_ret3
    exact ⟨rfl, (by repeat (first | exact Below.refl _ _ | with_reducible assumption | refine Below.alloc ?_ (by first | exact Nat.le_refl _ | (simp; done) | (simp; omega) | omega) _ | refine Below.setCell ?_ (by first | exact Nat.le_refl _ | (simp; done) | (simp; omega) | omega) _ | refine Below.drew ?_ | refine bdrewN ?_ _))⟩
  · have hm : ((m : Int) = 0) = False := by rw [hq.zero]; exact eq_false (by omega)
    have hmb : ((m : Int) == 0) = false := by have h1 : ¬ ((m : Int) = 0) := by rw [hm]; exact id
                                              simpa using h1
    have q0 : q.natAbs ≠ 0 := by omega
    have hg : Nat.gcd p.natAbs q.natAbs ≠ 0 := by
      intro h; exact q0 (Nat.eq_zero_of_gcd_eq_zero_right h)
    have lg : (dg (Nat.gcd p.natAbs q.natAbs)).length ≤ 1000 := gcd_len q0 lq
    have lx : (dg (p.natAbs / Nat.gcd p.natAbs q.natAbs)).length ≤ 1000 := len_le (Nat.div_le_self _ _) lp
    have ly : (dg (q.natAbs / Nat.gcd p.natAbs q.natAbs)).length ≤ 1000 := len_le (Nat.div_le_self _ _) lq
    obtain ⟨u, o1, f1⟩ : ∃ u o, fitp (lowP p q) = (u, o) := ⟨_, _, rfl⟩
    obtain ⟨v, o2, f2⟩ : ∃ u o, fitp (lowQ p q) = (u, o) := ⟨_, _, rfl⟩
    have EM := Lib.hid (mk_fit h0 hM f1 f2)
    have F1 := Lib.hid f1
    have F2 := Lib.hid f2
    clear f1 f2
    obtain ⟨sb, hsb⟩ : ∃ s, ((dn p != dn q) && decide (p.natAbs / Nat.gcd p.natAbs q.natAbs ≠ 0)) = s := ⟨_, rfl⟩
    have GP := low_P p q
    rw [hsb] at GP
    have GP := Lib.hid GP
    have SB := Lib.hid hsb
    clear hsb
    have GQ := Lib.hid (low_Q p q)
    have HG := Lib.hid hg
    generalize hgg : Nat.gcd p.natAbs q.natAbs = g at *
    have GG := Lib.hid hgg
    clear hM hg hgg
    have HP := Lib.hid hp
    have HQ := Lib.hid hq
    clear hp hq
    have hA := below_alloc (Below.refl w.heap.size w) (.cells #[.bool (dn p), .slice A n c] 91)
    have hB := below_alloc hA (.cells #[.bool (dn q), .slice B m d] 91)
    have hP1 := HP.out.below hB
    have hQ1 := HQ.out.below hB
    go_enter Tryz.func120, Tryz.ntmps120
    go_wp2_with fail
    refine (Gcd_big _ hP1 hQ1 lp lq).mono ?_
    rintro e w1 ⟨A1, n1, c1, rfl, h1, b1⟩
    rw [GG.out] at h1
    have p0 : w1.cell? ⟨w.heap.size, 0, none⟩ = some (.bool (dn p)) := keepcell b1 (by simp [go_sem]; done)
    have p1 : w1.cell? ⟨w.heap.size, 1, none⟩ = some (.slice A n c) := keepcell b1 (by simp [go_sem]; done)
    have q0 : w1.cell? ⟨w.heap.size + 1, 0, none⟩ = some (.bool (dn q)) := keepcell b1 (by simp [go_sem]; done)
    have q1 : w1.cell? ⟨w.heap.size + 1, 1, none⟩ = some (.slice B m d) := keepcell b1 (by simp [go_sem]; done)
    have z1 : w.heap.size < w1.heap.size := by have := b1.size; simp at this; omega
    have z2 : w.heap.size + 1 < w1.heap.size := by have := b1.size; simp at this; omega
    go_wp2_with fail
    refine (Over_big _ ((hP1.below b1).below (below_alloc (Below.refl _ _) _)) (h1.below (below_alloc (Below.refl _ _) _)) lp HG.out lg).mono ?_
    rintro e w2 ⟨A2, n2, c2, B2, m2, d2, rfl, h2, h2', b2⟩
    have g0 : w2.cell? ⟨w1.heap.size, 0, none⟩ = some (.bool false) := keepcell b2 (by simp [go_sem]; done)
    have g1 : w2.cell? ⟨w1.heap.size, 1, none⟩ = some (.slice A1 n1 c1) := keepcell b2 (by simp [go_sem]; done)
    have p0' := keepcell b2 (keepalloc (o := .cells #[.bool false, .slice A1 n1 c1] 91) p0)
    have q0' := keepcell b2 (keepalloc (o := .cells #[.bool false, .slice A1 n1 c1] 91) q0)
    have q1' := keepcell b2 (keepalloc (o := .cells #[.bool false, .slice A1 n1 c1] 91) q1)
    have z3 : w1.heap.size < w2.heap.size := by have := b2.size; simp at this; omega
    have z4 : w.heap.size < w2.heap.size := by omega
    have z5 : w.heap.size + 1 < w2.heap.size := by omega
    have hG2 : Row w2 A1 n1 c1 g := (h1.below (below_alloc (Below.refl _ _) (.cells #[.bool false, .slice A1 n1 c1] 91))).below b2
    have hQ2 : Row w2 B m d q.natAbs := ((hQ1.below b1).below (below_alloc (Below.refl _ _) (.cells #[.bool false, .slice A1 n1 c1] 91))).below b2
    have k2 := below_alloc (below_alloc (Below.refl w2.heap.size w2) (.cells #[.bool false, .slice A2 n2 c2] 91)) (.cells #[.bool false, .slice B2 m2 d2] 91)
    go_wp2_with fail
    refine (Over_big _ (hQ2.below k2) (hG2.below k2) lq HG.out lg).mono ?_
    rintro e w3 ⟨A3, n3, c3, B3, m3, d3, rfl, h3, h3', b3⟩
    have x0 : w3.cell? ⟨w2.heap.size, 0, none⟩ = some (.bool false) := keepcell b3 (by simp [go_sem]; done)
    have x1 : w3.cell? ⟨w2.heap.size, 1, none⟩ = some (.slice A2 n2 c2) := keepcell b3 (by simp [go_sem]; done)
    have xf : w3.frozen? ⟨w2.heap.size, 0, none⟩ = false := by rw [(bcell b3).2 _ _ (by simp; omega)]; simp [go_sem]
    have p0'' := keepcell b3 (keepalloc (o := .cells #[.bool false, .slice B2 m2 d2] 91) (keepalloc (o := .cells #[.bool false, .slice A2 n2 c2] 91) p0'))
    have q0'' := keepcell b3 (keepalloc (o := .cells #[.bool false, .slice B2 m2 d2] 91) (keepalloc (o := .cells #[.bool false, .slice A2 n2 c2] 91) q0'))
    have z6 : w2.heap.size < w3.heap.size := by have := b3.size; simp at this; omega
    have z7 : w.heap.size < w3.heap.size := by omega
    have z8 : w.heap.size + 1 < w3.heap.size := by omega
    clear p0 p1 q0 q1 g0 g1 p0' q0' q1'
    have k3 : Below w2.heap.size w2 (((w3.setCell ⟨w2.heap.size, 0, none⟩ (.bool !dn p == dn q)).alloc (.cells #[.bool false, .slice A3 n3 c3] 91)).alloc (.cells #[.bool false, .slice B3 m3 d3] 91)) := by
      have a1 := k2.trans (b3.mono k2.size)
      have a2 := a1.setCell (p := ⟨w2.heap.size, 0, none⟩) (Nat.le_refl _) (.bool !dn p == dn q)
      exact (a2.alloc a2.size _).alloc (by simp; omega) _
    have hX3 := h2.row.below k3
    have hY3 := ((h3.set (p := ⟨w2.heap.size, 0, none⟩) (by simp; omega) (.bool !dn p == dn q)).below (below_alloc (Below.refl _ _) (.cells #[.bool false, .slice A3 n3 c3] 91))).below (below_alloc (Below.refl _ _) (.cells #[.bool false, .slice B3 m3 d3] 91))
    go_wp2_with fail
    refine (cut_big (b := sb) _ hX3 lx SB.out).mono ?_
    rintro e w4 ⟨A4, n4, c4, rfl, h4, b4⟩
    have y0 : w4.cell? ⟨w3.heap.size, 0, none⟩ = some (.bool false) := keepcell b4 (by simp [go_sem]; done)
    have y1 : w4.cell? ⟨w3.heap.size, 1, none⟩ = some (.slice A3 n3 c3) := keepcell b4 (by simp [go_sem]; done)
    have z9 : w3.heap.size < w4.heap.size := by have := b4.size; simp at this; omega
    clear x0 x1 xf p0'' q0''
    go_wp2_with fail
    refine (Int_big _ h4 lx GP.out F1.out).mono ?_
    rintro e w5 ⟨rfl, b5⟩
    have y0' := keepcell b5 y0
    have y1' := keepcell b5 y1
    go_wp2_with fail
    refine (Int_big _ ((hY3.below b4).below b5).row ly GQ.out F2.out).mono ?_
    rintro e w6 ⟨rfl, b6⟩
    have BB : Below w.heap.size w w6 := by
      have a1 := hB.trans (b1.mono hB.size)
      have a2 := below_alloc a1 (.cells #[.bool false, .slice A1 n1 c1] 91)
      have a3 := a2.trans (b2.mono a2.size)
      have a4 := a3.trans (k3.mono a3.size)
      have a5 := a4.trans (b4.mono a4.size)
      have a6 := a5.trans (b5.mono a5.size)
      exact a6.trans (b6.mono a6.size)
    have HBB := Lib.hid BB
    clear BB y0 y1 y0' y1' b1 b2 b3 b4 b5 b6 k2 k3 hX3 hY3 h4 h3 h3' h2 h2' h1 hP1 hQ1 hG2 hQ2 hA hB GP GQ F1 F2
    obtain ⟨e1, e2, e3⟩ := EM.out
    cases o1
    · rw [show (if (false && o2) = true then u else 0) = 0 by cases o2 <;> rfl] at e1
      rw [show (if (false && o2) = true then v else 0) = 0 by cases o2 <;> rfl] at e2
      rw [show (false && o2) = false by cases o2 <;> rfl] at e3
      subst e1 e2 e3
      clear EM
      go_wp2
      go_ret3
      exact ⟨rfl, HBB.out⟩
    · cases o2
      · subst e1 e2 e3
        clear EM
        go_wp2
        go_ret3
        exact ⟨rfl, HBB.out⟩
      · subst e1 e2 e3
        clear EM
        go_wp2
        go_ret3
        exact ⟨rfl, HBB.out⟩
end Go.Proofs.YtbpjnkeilhfajaaGreat.Big
/- ashlarref01's products, quotients, sums and order of rats. -/
namespace Go.Proofs.YtbpjnkeilhfajaaGreat.Big
set_option linter.unusedVariables false
set_option linter.unusedSimpArgs false
open Go.RowKit Go.Proofs.YtbpjnkeilhfajaaGreatW.PrintWords Go.Proofs.YtbpjnkeilhfajaaGreat.Given Go.Proofs.YtbpjnkeilhfajaaGreat.Dig Go.Proofs.YtbpjnkeilhfajaaGreat.DigNumReckons Go.Proofs.YtbpjnkeilhfajaaGreat.Num

theorem len3 {x y z t : Int} (hx : In64 x) (hy : In64 y) (hz : In64 z) (ht : In64 t) : (dg (x * y + z * t).natAbs).length ≤ 1000 := by
  have h1 := abs2 hx hy
  have h2 := abs2 hz ht
  generalize x * y = a at *
  generalize z * t = b at *
  exact len_of (n := 39) (by omega) (by decide)
theorem len3n {x y z t : Int} (hx : In64 x) (hy : In64 y) (hz : In64 z) (ht : In64 t) : (dg (x * y + -(z * t)).natAbs).length ≤ 1000 := by
  have h1 := abs2 hx hy
  have h2 := abs2 hz ht
  generalize x * y = a at *
  generalize z * t = b at *
  exact len_of (n := 39) (by omega) (by decide)

set_option maxHeartbeats 4000000 in
theorem Product_big {p q r s x y : Int} {b : Bool} (w : World) (hp : In64 p) (hq : In64 q) (hr : In64 r) (hs : In64 s) (hM : mk (p * r) (q * s) = (x, y, b)) :
    Calls Tryz.prog 121 #[.int .i64 p, .int .i64 q, .int .i64 r, .int .i64 s] w fun e w' => e = .returned (.tuple #[.int .i64 x, .int .i64 y, .bool b]) ∧ Below w.heap.size w w' := by
  have HM := Lib.hid hM
  clear hM
  go_enter Tryz.func121, Tryz.ntmps121
  go_wp2_with fail
  refine (Of_big hp _).mono ?_
  rintro e w1 ⟨A1, n1, c1, rfl, h1, b1⟩
  go_wp2_with fail
  refine (Of_big hr _).mono ?_
  rintro e w2 ⟨A2, n2, c2, rfl, h2, b2⟩
  go_wp2_with fail
  refine (Times_big _ (h1.below b2) h2 (len1 hp) (len1 hr)).mono ?_
  rintro e w3 ⟨A3, n3, c3, rfl, h3, b3⟩
  go_wp2_with fail
  refine (Of_big hq _).mono ?_
  rintro e w4 ⟨A4, n4, c4, rfl, h4, b4⟩
  go_wp2_with fail
  refine (Of_big hs _).mono ?_
  rintro e w5 ⟨A5, n5, c5, rfl, h5, b5⟩
  go_wp2_with fail
  refine (Times_big _ (h4.below b5) h5 (len1 hq) (len1 hs)).mono ?_
  rintro e w6 ⟨A6, n6, c6, rfl, h6, b6⟩
  go_wp2_with fail
  refine (Make_big _ (((h3.below b4).below b5).below b6) h6 (len2 hp hr) (len2 hq hs) HM.out).mono ?_
  rintro e w7 ⟨rfl, b7⟩
  go_wp2
  refine bodyPost_ret (v := .tuple #[.int .i64 x, .int .i64 y, .bool b]) (by simp [results, Tryz.results121, go_sem]) rfl ⟨rfl, ?_⟩
  have c2 := b1.trans (b2.mono b1.size)
  have c3 := c2.trans (b3.mono c2.size)
  have c4 := c3.trans (b4.mono c3.size)
  have c5 := c4.trans (b5.mono c4.size)
  have c6 := c5.trans (b6.mono c5.size)
  exact c6.trans (b7.mono c6.size)

end Go.Proofs.YtbpjnkeilhfajaaGreat.Big
