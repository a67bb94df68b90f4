/- Plain: what a formula's clauses mean. -/
import Derived.Test.YthckboogibhjaaaDoorTrmTw
namespace Go.Proofs.YthckboogibhjaaaDoor.Trm
set_option linter.unusedVariables false
set_option linter.unusedSimpArgs false
open Go.RowKit Go.Proofs.YthckboogibhjaaaDoorW.PrintWords

/-- A literal, and a clause, of variables that are so. -/
def lv (a : Nat → Bool) (x : Int) : Bool := if 0 < x then a x.toNat else if x < 0 then !(a (-x).toNat) else false
def ev (a : Nat → Bool) (c : List Int) : Bool := c.any (lv a)
/-- A clause's greatest variable. -/
def mv : List Int → Nat
  | [] => 0
  | x :: c => max x.natAbs (mv c)
theorem mv_le {B : Nat} : ∀ {c : List Int}, (∀ x, x ∈ c → x.natAbs ≤ B) → mv c ≤ B
  | [], _ => Nat.zero_le _
  | x :: c, h => by
    have h1 := h x List.mem_cons_self
    have h2 := mv_le (c := c) (fun y hy => h y (List.mem_cons_of_mem _ hy))
    rw [mv]; omega
theorem mv_mem : ∀ {c : List Int} {x : Int}, x ∈ c → x.natAbs ≤ mv c
  | y :: c, x, h => by
    rw [mv]
    rcases List.mem_cons.1 h with rfl | h
    · omega
    · have := mv_mem h; omega
theorem lv_neg (a : Nat → Bool) {x : Int} (h : x ≠ 0) : lv a (-x) = !lv a x := by
  unfold lv
  rcases (show x < 0 ∨ 0 < x by omega) with h1 | h1
  · rw [if_pos (by omega), if_neg (by omega), if_pos h1]; simp
  · rw [if_neg (by omega), if_pos (by omega), if_pos h1, Int.neg_neg]
theorem lv_pos (a : Nat → Bool) {h : Nat} (hh : 0 < h) : lv a (h : Int) = a h := by
  unfold lv; rw [if_pos (by omega)]; simp
theorem lv_negh (a : Nat → Bool) {h : Nat} (hh : 0 < h) : lv a (-(h : Int)) = !a h := by rw [lv_neg a (by omega), lv_pos a hh]
theorem lv_agree {a A : Nat → Bool} {u : Nat} (h : ∀ i, i < u → a i = A i) {x : Int} (hx : x.natAbs < u) : lv a x = lv A x := by
  unfold lv
  rw [h x.toNat (by omega), h (-x).toNat (by omega)]

/-- Clauses tell each variable of v + 1 .. v', of those below it. -/
def Good (A : Nat → Bool) (N : List (List Int)) (v v' : Nat) : Prop :=
  (∀ c, c ∈ N → v < mv c ∧ mv c ≤ v') ∧ ∀ (a : Nat → Bool) (u : Nat), v < u → u ≤ v' → (∀ i, i < u → a i = A i) → ((∀ c, c ∈ N → mv c = u → ev a c = true) ↔ a u = A u)
theorem Good.nil (A : Nat → Bool) (v : Nat) : Good A [] v v := ⟨fun c hc => by simp at hc, fun a u h1 h2 => absurd h1 (by omega)⟩
theorem Good.app {A : Nat → Bool} {N1 N2 : List (List Int)} {v v1 v2 : Nat} (h1 : Good A N1 v v1) (h2 : Good A N2 v1 v2) (l1 : v ≤ v1) (l2 : v1 ≤ v2) : Good A (N1 ++ N2) v v2 := by
  refine ⟨fun c hc => ?_, fun a u hu hu2 ha => ?_⟩
  · rcases List.mem_append.1 hc with hc | hc
    · have := h1.1 c hc; omega
    · have := h2.1 c hc; omega
  · rcases Nat.lt_or_ge v1 u with hlt | hge
    · rw [← h2.2 a u hlt hu2 ha]
      constructor
      · exact fun h c hc hm => h c (List.mem_append_right _ hc) hm
      · intro h c hc hm
        rcases List.mem_append.1 hc with hc | hc
        · have := h1.1 c hc; omega
        · exact h c hc hm
    · rw [← h1.2 a u hu hge ha]
      constructor
      · exact fun h c hc hm => h c (List.mem_append_left _ hc) hm
      · intro h c hc hm
        rcases List.mem_append.1 hc with hc | hc
        · exact h c hc hm
        · have := h2.1 c hc; omega

/-- A join's own clauses. -/
def opV (op : Int) (l : List Bool) : Bool :=
  if op = 16 then true else if op = 17 then false else if op = 19 then l.all id else if op = 21 then (!(l.headD false)) || (l.getD 1 false) else l.any id
theorem all_pairs {N : List (List Int)} {P : List Int → Prop} : (∀ c, c ∈ N → P c) ↔ ∀ c, c ∈ N → P c := Iff.rfl
theorem or_good (A : Nat → Bool) (h : Nat) (hh : 0 < h) (l : List Int) (hl : ∀ x, x ∈ l → x.natAbs < h ∧ x ≠ 0) (a : Nat → Bool) : (∀ c, c ∈ orC (h : Int) l [] → ev a c = true) ↔ a h = l.any (lv a) := by
  unfold orC
  rw [List.nil_append]
  constructor
  · intro hc
    have hlast := hc ((-(h : Int)) :: l) (List.mem_append_right _ List.mem_cons_self)
    have hp : ∀ x, x ∈ l → (a h || !lv a x) = true := fun x hx => by
      have := hc [(h : Int), -x] (List.mem_append_left _ (List.mem_map.2 ⟨-x, List.mem_map.2 ⟨x, hx, rfl⟩, rfl⟩))
      rw [ev, List.any_cons, List.any_cons, List.any_nil, Bool.or_false, lv_pos a hh, lv_neg a (hl x hx).2] at this
      exact this
    rw [ev, List.any_cons, lv_negh a hh] at hlast
    cases hah : a h with
    | true => rw [hah] at hlast; simpa using hlast.symm
    | false =>
      symm
      rw [Bool.eq_false_iff]
      intro hany
      obtain ⟨x, hx, hv⟩ := List.any_eq_true.1 hany
      have := hp x hx
      rw [hah, hv] at this
      exact absurd this (by decide)
  · intro heq c hc
    rcases List.mem_append.1 hc with hc | hc
    · obtain ⟨y, hy, rfl⟩ := List.mem_map.1 hc
      obtain ⟨x, hx, rfl⟩ := List.mem_map.1 hy
      rw [ev, List.any_cons, List.any_cons, List.any_nil, Bool.or_false, lv_pos a hh, lv_neg a (hl x hx).2]
      cases hv : lv a x with
      | false => simp
      | true =>
        have : l.any (lv a) = true := List.any_eq_true.2 ⟨x, hx, hv⟩
        rw [heq, this]; rfl
    · rw [List.mem_singleton.1 hc, ev, List.any_cons, lv_negh a hh, heq]
      cases l.any (lv a) <;> rfl
theorem and_good (A : Nat → Bool) (h : Nat) (hh : 0 < h) (l : List Int) (hl : ∀ x, x ∈ l → x.natAbs < h ∧ x ≠ 0) (a : Nat → Bool) : (∀ c, c ∈ andC (h : Int) l [] → ev a c = true) ↔ a h = l.all (lv a) := by
  unfold andC
  rw [List.nil_append]
  have hneg : ∀ l : List Int, (∀ x, x ∈ l → x ≠ 0) → (l.map fun n => -n).any (lv a) = !l.all (lv a) := by
    intro l
    induction l with
    | nil => intro _; rfl
    | cons x l ih =>
      intro h
      rw [List.map_cons, List.any_cons, List.all_cons, ih (fun y hy => h y (List.mem_cons_of_mem _ hy)), lv_neg a (h x List.mem_cons_self), Bool.not_and]
  constructor
  · intro hc
    have hlast := hc ((h : Int) :: l.map fun n => -n) (List.mem_append_right _ List.mem_cons_self)
    have hp : ∀ x, x ∈ l → (!a h || lv a x) = true := fun x hx => by
      have := hc [-(h : Int), x] (List.mem_append_left _ (List.mem_map.2 ⟨x, hx, rfl⟩))
      rw [ev, List.any_cons, List.any_cons, List.any_nil, Bool.or_false, lv_negh a hh] at this
      exact this
    rw [ev, List.any_cons, lv_pos a hh, hneg l (fun x hx => (hl x hx).2)] at hlast
    cases hah : a h with
    | false => rw [hah] at hlast; simpa using hlast
    | true =>
      symm
      rw [List.all_eq_true]
      intro x hx
      have := hp x hx
      rw [hah] at this
      simpa using this
  · intro heq c hc
    rcases List.mem_append.1 hc with hc | hc
    · obtain ⟨x, hx, rfl⟩ := List.mem_map.1 hc
      rw [ev, List.any_cons, List.any_cons, List.any_nil, Bool.or_false, lv_negh a hh]
      cases hv : lv a x with
      | true => simp
      | false =>
        have : l.all (lv a) = false := by
          rw [Bool.eq_false_iff]
          intro hall
          have := List.all_eq_true.1 hall x hx
          rw [hv] at this; exact absurd this (by decide)
        rw [heq, this]; rfl
    · rw [List.mem_singleton.1 hc, ev, List.any_cons, lv_pos a hh, hneg l (fun x hx => (hl x hx).2), heq]
      cases l.all (lv a) <;> rfl
end Go.Proofs.YthckboogibhjaaaDoor.Trm
