/- A region of open order: what is asked of the world holds till the last operation, and need not hold behind it. -/
import Derived.Below
import Derived.Test.YtbpjnkeilhfajaaGreatTk
namespace Go.Proofs.YtbpjnkeilhfajaaGreat
set_option linter.unusedVariables false
section
variable {P : Program} {ops : Array Oper} {Q : Exit → Act → World → Prop} {md : Region.Mode} {S : World → Prop}
def wpAnyL (P : Program) (md : Region.Mode) (ops : Array Oper) (Q : Exit → Act → World → Prop) (S : World → Prop) (z : Nat) : Nat → Array Bool → Act → World → Prop
 | 0, listed, a, w => Region.ready md ops listed = [] ∧ Q .normal a w
 | fuel + 1, listed, a, w =>
  (Region.ready md ops listed = [] → Q .normal a w) ∧
  ∀ i ∈ Region.ready md ops listed, wpOp P ops Q i (fun a' w' => (i ≠ z → S w') ∧ wpAnyL P md ops Q S z fuel (listed.setIfInBounds i true) a' w') a w
theorem wpAny_of_L {z : Nat} : ∀ (fuel : Nat) (listed : Array Bool) (a : Act) (w : World), wpAnyL P md ops Q S z fuel listed a w → wpAny P md ops Q fuel listed a w
 | 0, _, _, _, h => h
 | fuel + 1, _, _, _, h => ⟨h.1, fun i hi => wpOp_mono (fun a' w' h' => wpAny_of_L fuel _ a' w' h'.2) (h.2 i hi)⟩
def closedR (md : Region.Mode) (ops : Array Oper) (listed : Array Bool) : Bool := (List.range ops.size).all fun k => !(listed.getD k false) || match ops[k]? with
 | some o => o.after.all (fun e => !Region.binds md e || listed.getD e.on false)
 | none => true
def lastR (md : Region.Mode) (ops : Array Oper) (z : Nat) : Bool := (List.range ops.size).all fun i => i == z || (List.range ops.size).any fun k => decide (i < k) && match ops[k]? with
 | some o => o.after.any (fun e => Region.binds md e && e.on == i)
 | none => false
def ClosedR (md : Region.Mode) (ops : Array Oper) (listed : Array Bool) : Prop := ∀ k o, ops[k]? = some o → listed.getD k false = true → ∀ e ∈ o.after, Region.binds md e = true → listed.getD e.on false = true
theorem closedR_spec {listed : Array Bool} (h : closedR md ops listed = true) : ClosedR md ops listed := by
 intro k o ho hk e he hb
 simp only [closedR, List.all_eq_true, List.mem_range] at h
 have h1 := h k (Array.getElem?_eq_some_iff.1 ho).1
 simp only [ho, hk, Bool.not_true, Bool.false_or, Array.all_eq_true_iff_forall_mem, Bool.or_eq_true, Bool.not_eq_true'] at h1
 exact (h1 e he).resolve_left (by simp [hb])
theorem ClosedR.step {listed : Array Bool} {j : Nat} (h : ClosedR md ops listed) (hj : j ∈ Region.ready md ops listed) : ClosedR md ops (listed.setIfInBounds j true) := by
 intro k o ho hk e he hb
 obtain ⟨h0, oj, hoj, hall⟩ := mem_ready.1 hj
 by_cases hkj : j = k
 ·subst hkj
  rw [hoj] at ho
  cases ho
  exact getD_set_true (hall e he hb)
 ·rw [getD_set_ne false hkj] at hk
  exact getD_set_true (h k o ho hk e he hb)
theorem all_listed {listed : Array Bool} {z : Nat} (hc : ClosedR md ops listed) (hl : lastR md ops z = true) (hz : z ∈ Region.ready md ops listed) : ∀ (d i : Nat), i + d = ops.size → i ≠ z → i < ops.size → listed.getD i false = true := by
 obtain ⟨hz0, oz, hoz, hzall⟩ := mem_ready.1 hz
 intro d
 induction d using Nat.strongRecOn with
 | ind d ih =>
  intro i hi hne hlt
  simp only [lastR, List.all_eq_true, List.mem_range] at hl
  have h1 := hl i hlt
  simp only [Bool.or_eq_true, beq_iff_eq, hne, false_or] at h1
  obtain ⟨k, hk, hk2⟩ := List.any_eq_true.1 h1
  rw [List.mem_range] at hk
  simp only [Bool.and_eq_true, decide_eq_true_eq] at hk2
  obtain ⟨hik, hk3⟩ := hk2
  cases ho : ops[k]? with
  | none => simp [ho] at hk3
  | some o =>
   simp only [ho] at hk3
   obtain ⟨e, he, hb⟩ := Array.any_eq_true'.1 hk3
   simp only [Bool.and_eq_true, beq_iff_eq] at hb
   by_cases hkz : k = z
   ·subst hkz
    rw [hoz] at ho
    cases ho
    rw [← hb.2]
    exact hzall e he hb.1
   ·have hkl := ih (ops.size - k) (by omega) k (by omega) hkz hk
    rw [← hb.2]
    exact hc k o ho hkl e he hb.1
theorem wpAnyL_first {z i : Nat} {oi : Oper} {v : Value} (hi : ops[i]? = some oi) (hiz : i ≠ z) (hlast : lastR md ops z = true) (hsel : ∀ (j : Nat) (o : Oper) cs b, ops[j]? = some o → o.op ≠ .select cs b)
  (hQ : ∀ c a w, Q (.panic c) (a.put oi.dst v) w → Q (.panic c) a w) :
  ∀ (fuel : Nat) (listed : Array Bool) (a : Act) (w : World),
   (∀ j oj, ops[j]? = some oj → j ≠ i → listed.getD j true = false → (∀ e ∈ oj.after, Region.binds md e = true → e.on ≠ i) → oi.apart ops oj = true) → ClosedR md ops listed →
   i ∈ Region.ready md ops listed → YieldsIf P ops S oi v a → S w →
   wpAnyL P md ops Q S z fuel (listed.setIfInBounds i true) (a.put oi.dst v) w → wpAnyL P md ops Q S z (fuel + 1) listed a w := by
 intro fuel
 induction fuel with
 | zero =>
  intro listed a w _ _ hr hy hS H
  refine ⟨fun h => (by rw [h] at hr; cases hr), fun j hj => ?_⟩
  by_cases hji : j = i
  ·subst hji; exact hy.wpOp hi hS ⟨fun _ => hS, H⟩
  ·have := ready_mono hj hji
   rw [H.1] at this
   cases this
 | succ fuel ih =>
  intro listed a w hfree hcl hr hy hS H
  refine ⟨fun h => (by rw [h] at hr; cases hr), fun j hj => ?_⟩
  by_cases hji : j = i
  ·subst hji; exact hy.wpOp hi hS ⟨fun _ => hS, H⟩
  ·have h1 := H.2 j (ready_mono hj hji)
   have hjz : j ≠ z := by
    rintro rfl
    have hlt : i < ops.size := (Array.getElem?_eq_some_iff.1 hi).1
    have ha := all_listed hcl hlast hj (ops.size - i) i (by omega) hiz hlt
    have hb := (mem_ready.1 hr).1
    rcases Nat.lt_or_ge i listed.size with h' | h'
    ·simp [h'] at ha hb; rw [ha] at hb; cases hb
    ·simp [Array.getElem?_eq_none h'] at hb
   obtain ⟨hjun, oj, hoj, hall⟩ := mem_ready.1 hj
   have hnot : ∀ e ∈ oj.after, Region.binds md e = true → e.on ≠ i := fun e he hb heq => by
    have h1 := hall e he hb
    have h0 := (mem_ready.1 hr).1
    rw [heq] at h1
    rcases Nat.lt_or_ge i listed.size with h' | h'
    ·simp [h'] at h0 h1; rw [h0] at h1; cases h1
    ·simp [Array.getElem?_eq_none h'] at h1
   have h2 := wpOp_putIf hoj (hfree j oj hoj hji hjun hnot) (fun cs b => hsel i oi cs b hi) (fun cs b => hsel j oj cs b hoj) hQ hy h1
   have hfree' : ∀ k ok, ops[k]? = some ok → k ≠ i → (listed.setIfInBounds j true).getD k true = false →
     (∀ e ∈ ok.after, Region.binds md e = true → e.on ≠ i) → oi.apart ops ok = true := fun k ok hk hki hun hno => by
    refine hfree k ok hk hki ?_ hno
    by_cases hjk : j = k
    ·subst hjk; exact hjun
    ·rw [getD_set_ne true hjk] at hun; exact hun
   refine wpOp_mono (fun a' w' h3 => ⟨h3.2.1, ih (listed.setIfInBounds j true) a' w' hfree' (hcl.step hj) (ready_mono hr (Ne.symm hji)) h3.1 (h3.2.1 hjz) ?_⟩) h2
   rw [Array.setIfInBounds_comm _ _ hji]
   exact h3.2.2
theorem wpAnyL_take {z i : Nat} {oi : Oper} {v : Value} {fuel : Nat} {listed : Array Bool} {a : Act} {w : World} (hi : ops[i]? = some oi) (hb : (Region.noSelect ops && Region.free md ops listed i && (Region.ready md ops listed).contains i && closedR md ops listed && lastR md ops z && i != z) = true)
  (hQ : ∀ c a w, Q (.panic c) (a.put oi.dst v) w → Q (.panic c) a w) (hy : YieldsIf P ops S oi v a) (hS : S w)
  (h : wpAnyL P md ops Q S z fuel (listed.setIfInBounds i true) (a.put oi.dst v) w) : wpAnyL P md ops Q S z (fuel + 1) listed a w := by
 simp only [Bool.and_eq_true, bne_iff_ne] at hb
 exact wpAnyL_first hi hb.2 hb.1.2 (Region.noSelect_spec hb.1.1.1.1.1) hQ fuel listed a w (Region.free_spec hi hb.1.1.1.1.2) (closedR_spec hb.1.1.2) (by simpa using hb.1.1.1.2) hy hS h
theorem wpAnyL_done {z : Nat} {listed : Array Bool} {a : Act} {w : World} (hr : Region.ready md ops listed = []) (h : Q .normal a w) :
  ∀ fuel, wpAnyL P md ops Q S z fuel listed a w
 | 0 => ⟨hr, h⟩
 | _ + 1 => ⟨fun _ => h, by rw [hr]; simp⟩
def AllReadyL (P : Program) (md : Region.Mode) (ops : Array Oper) (Q : Exit → Act → World → Prop) (S : World → Prop) (z : Nat) (fuel : Nat) (listed : Array Bool) (a : Act) (w : World) (rs : List Nat) : Prop :=
 ∀ i ∈ rs, wpOp P ops Q i (fun a' w' => (i ≠ z → S w') ∧ wpAnyL P md ops Q S z fuel (listed.setIfInBounds i true) a' w') a w
theorem AllReadyL.nil {z fuel : Nat} {listed : Array Bool} {a : Act} {w : World} : AllReadyL P md ops Q S z fuel listed a w [] := fun _ h => by cases h
theorem AllReadyL.cons {z fuel : Nat} {listed : Array Bool} {a : Act} {w : World} {i : Nat} {o : Oper} {rs : List Nat} (ho : ops[i]? = some o)
  (h : ∀ K' : Act → World → Prop, Shut (∀ a w, (i ≠ z → S w) → ((i ≠ z → S w) → wpAnyL P md ops Q S z fuel (listed.setIfInBounds i true) a w) → K' a w) → if Region.wanted o (yielded ops a.tmps) = true then Oper.wp P o a w K' Q else K' (a.put o.dst undef) w)
  (hs : AllReadyL P md ops Q S z fuel listed a w rs) : AllReadyL P md ops Q S z fuel listed a w (i :: rs) := fun j hj => by
 rcases List.mem_cons.1 hj with rfl | hj
 ·exact wpOp_step ho (fun K' hK => h K' (fun a w hS hW => hK a w ⟨hS, hW hS⟩))
 ·exact hs j hj
theorem wpAnyL_ready {z : Nat} {rs : List Nat} {fuel : Nat} {listed : Array Bool} {a : Act} {w : World} (hr : Region.ready md ops listed = rs) (hne : rs ≠ [])
  (h : AllReadyL P md ops Q S z fuel listed a w rs) : wpAnyL P md ops Q S z (fuel + 1) listed a w := ⟨fun h0 => absurd (hr ▸ h0) hne, hr ▸ h⟩
theorem wp_region_L {id : Nat} (z : Nat) (S : World → Prop) {a : Act} {w : World} (hm : P.follows .mixedOrders = true) (hS : S w.drew)
  (h : S w.drew → wpAnyL P .any ops Q S z ops.size (Array.replicate ops.size false) a w.drew) : (Code.region id ops true).wp P Q a w :=
 wp_region_any hm (wpAny_of_L _ _ _ _ (h hS))
def Tl (P : Program) (md : Region.Mode) (L : List Oper) (i : Nat) (o : Oper) (Q : Exit → Act → World → Prop) (S : World → Prop) : Prop :=
 ∀ {z fuel : Nat} {listed : Array Bool} {a : Act} {w : World} (v : Value), (Region.noSelect L.toArray && Region.free md L.toArray listed i && (Region.ready md L.toArray listed).contains i && closedR md L.toArray listed && lastR md L.toArray z && i != z) = true → Region.wanted o (yielded L.toArray a.tmps) = true → (∀ c a w, Q (.panic c) (a.put o.dst v) w → Q (.panic c) a w) → (∀ w, S w → (execOp a.eval o).run P w = .ok (.value v) w) → S w → wpAnyL P md L.toArray Q S z fuel (listed.setIfInBounds i true) (a.put o.dst v) w → wpAnyL P md L.toArray Q S z (fuel + 1) listed a w
def Ul (P : Program) (md : Region.Mode) (L : List Oper) (i : Nat) (o : Oper) (Q : Exit → Act → World → Prop) (S : World → Prop) : Prop :=
 ∀ {z fuel : Nat} {listed : Array Bool} {a : Act} {w : World}, (Region.noSelect L.toArray && Region.free md L.toArray listed i && (Region.ready md L.toArray listed).contains i && closedR md L.toArray listed && lastR md L.toArray z && i != z) = true → Region.wanted o (yielded L.toArray a.tmps) = false → (∀ c a w, Q (.panic c) (a.put o.dst undef) w → Q (.panic c) a w) → S w → wpAnyL P md L.toArray Q S z fuel (listed.setIfInBounds i true) (a.put o.dst undef) w → wpAnyL P md L.toArray Q S z (fuel + 1) listed a w
def Al (P : Program) (md : Region.Mode) (L : List Oper) (i : Nat) (o : Oper) (Q : Exit → Act → World → Prop) (S : World → Prop) : Prop :=
 ∀ {z fuel : Nat} {listed : Array Bool} {a : Act} {w : World} {rs : List Nat}, (∀ K' : Act → World → Prop, Shut (∀ a w, (i ≠ z → S w) → ((i ≠ z → S w) → wpAnyL P md L.toArray Q S z fuel (listed.setIfInBounds i true) a w) → K' a w) → if Region.wanted o (yielded L.toArray a.tmps) = true then Oper.wp P o a w K' Q else K' (a.put o.dst undef) w) → AllReadyL P md L.toArray Q S z fuel listed a w rs → AllReadyL P md L.toArray Q S z fuel listed a w (i :: rs)
theorem Tl.mk {L : List Oper} {i : Nat} {o : Oper} (h : L.toArray[i]? = some o) : Tl P md L i o Q S := fun v hb hw hQ hv hS H => wpAnyL_take h hb hQ (.inl ⟨hw, hv⟩) hS H
theorem Ul.mk {L : List Oper} {i : Nat} {o : Oper} (h : L.toArray[i]? = some o) : Ul P md L i o Q S := fun hb hw hQ hS H => wpAnyL_take h hb hQ (.inr ⟨hw, rfl⟩) hS H
theorem Al.mk {L : List Oper} {i : Nat} {o : Oper} (h : L.toArray[i]? = some o) : Al P md L i o Q S := fun H hs => AllReadyL.cons h H hs
variable {x0 x1 x2 x3 x4 x5 x6 x7 x8 x9 x10 x11 x12 x13 x14 x15 x16 x17 x18 x19 x20 x21 x22 x23 x24 x25 x26 x27 x28 x29 x30 x31 x32 x33 x34 x35 x36 x37 x38 x39 x40 x41 x42 x43 x44 x45 x46 x47 : Oper} {l : List Oper}
theorem tl0 : Tl P md (x0 :: l) 0 x0 Q S := Tl.mk rfl
theorem al0 : Al P md (x0 :: l) 0 x0 Q S := Al.mk rfl
theorem tl1 : Tl P md (x0 :: x1 :: l) 1 x1 Q S := Tl.mk rfl
theorem al1 : Al P md (x0 :: x1 :: l) 1 x1 Q S := Al.mk rfl
theorem tl2 : Tl P md (x0 :: x1 :: x2 :: l) 2 x2 Q S := Tl.mk rfl
theorem al2 : Al P md (x0 :: x1 :: x2 :: l) 2 x2 Q S := Al.mk rfl
theorem tl3 : Tl P md (x0 :: x1 :: x2 :: x3 :: l) 3 x3 Q S := Tl.mk rfl
theorem ul3 : Ul P md (x0 :: x1 :: x2 :: x3 :: l) 3 x3 Q S := Ul.mk rfl
theorem al3 : Al P md (x0 :: x1 :: x2 :: x3 :: l) 3 x3 Q S := Al.mk rfl
theorem tl4 : Tl P md (x0 :: x1 :: x2 :: x3 :: x4 :: l) 4 x4 Q S := Tl.mk rfl
theorem ul4 : Ul P md (x0 :: x1 :: x2 :: x3 :: x4 :: l) 4 x4 Q S := Ul.mk rfl
theorem al4 : Al P md (x0 :: x1 :: x2 :: x3 :: x4 :: l) 4 x4 Q S := Al.mk rfl
theorem tl5 : Tl P md (x0 :: x1 :: x2 :: x3 :: x4 :: x5 :: l) 5 x5 Q S := Tl.mk rfl
theorem ul5 : Ul P md (x0 :: x1 :: x2 :: x3 :: x4 :: x5 :: l) 5 x5 Q S := Ul.mk rfl
theorem al5 : Al P md (x0 :: x1 :: x2 :: x3 :: x4 :: x5 :: l) 5 x5 Q S := Al.mk rfl
theorem tl6 : Tl P md (x0 :: x1 :: x2 :: x3 :: x4 :: x5 :: x6 :: l) 6 x6 Q S := Tl.mk rfl
theorem ul6 : Ul P md (x0 :: x1 :: x2 :: x3 :: x4 :: x5 :: x6 :: l) 6 x6 Q S := Ul.mk rfl
theorem al6 : Al P md (x0 :: x1 :: x2 :: x3 :: x4 :: x5 :: x6 :: l) 6 x6 Q S := Al.mk rfl
theorem tl7 : Tl P md (x0 :: x1 :: x2 :: x3 :: x4 :: x5 :: x6 :: x7 :: l) 7 x7 Q S := Tl.mk rfl
theorem ul7 : Ul P md (x0 :: x1 :: x2 :: x3 :: x4 :: x5 :: x6 :: x7 :: l) 7 x7 Q S := Ul.mk rfl
theorem al7 : Al P md (x0 :: x1 :: x2 :: x3 :: x4 :: x5 :: x6 :: x7 :: l) 7 x7 Q S := Al.mk rfl
theorem tl8 : Tl P md (x0 :: x1 :: x2 :: x3 :: x4 :: x5 :: x6 :: x7 :: x8 :: l) 8 x8 Q S := Tl.mk rfl
theorem ul8 : Ul P md (x0 :: x1 :: x2 :: x3 :: x4 :: x5 :: x6 :: x7 :: x8 :: l) 8 x8 Q S := Ul.mk rfl
theorem al8 : Al P md (x0 :: x1 :: x2 :: x3 :: x4 :: x5 :: x6 :: x7 :: x8 :: l) 8 x8 Q S := Al.mk rfl
theorem tl9 : Tl P md (x0 :: x1 :: x2 :: x3 :: x4 :: x5 :: x6 :: x7 :: x8 :: x9 :: l) 9 x9 Q S := Tl.mk rfl
theorem ul9 : Ul P md (x0 :: x1 :: x2 :: x3 :: x4 :: x5 :: x6 :: x7 :: x8 :: x9 :: l) 9 x9 Q S := Ul.mk rfl
theorem al9 : Al P md (x0 :: x1 :: x2 :: x3 :: x4 :: x5 :: x6 :: x7 :: x8 :: x9 :: l) 9 x9 Q S := Al.mk rfl
theorem tl10 : Tl P md (x0 :: x1 :: x2 :: x3 :: x4 :: x5 :: x6 :: x7 :: x8 :: x9 :: x10 :: l) 10 x10 Q S := Tl.mk rfl
theorem ul10 : Ul P md (x0 :: x1 :: x2 :: x3 :: x4 :: x5 :: x6 :: x7 :: x8 :: x9 :: x10 :: l) 10 x10 Q S := Ul.mk rfl
theorem al10 : Al P md (x0 :: x1 :: x2 :: x3 :: x4 :: x5 :: x6 :: x7 :: x8 :: x9 :: x10 :: l) 10 x10 Q S := Al.mk rfl
theorem tl11 : Tl P md (x0 :: x1 :: x2 :: x3 :: x4 :: x5 :: x6 :: x7 :: x8 :: x9 :: x10 :: x11 :: l) 11 x11 Q S := Tl.mk rfl
theorem ul11 : Ul P md (x0 :: x1 :: x2 :: x3 :: x4 :: x5 :: x6 :: x7 :: x8 :: x9 :: x10 :: x11 :: l) 11 x11 Q S := Ul.mk rfl
theorem al11 : Al P md (x0 :: x1 :: x2 :: x3 :: x4 :: x5 :: x6 :: x7 :: x8 :: x9 :: x10 :: x11 :: l) 11 x11 Q S := Al.mk rfl
theorem tl12 : Tl P md (x0 :: x1 :: x2 :: x3 :: x4 :: x5 :: x6 :: x7 :: x8 :: x9 :: x10 :: x11 :: x12 :: l) 12 x12 Q S := Tl.mk rfl
theorem ul12 : Ul P md (x0 :: x1 :: x2 :: x3 :: x4 :: x5 :: x6 :: x7 :: x8 :: x9 :: x10 :: x11 :: x12 :: l) 12 x12 Q S := Ul.mk rfl
theorem al12 : Al P md (x0 :: x1 :: x2 :: x3 :: x4 :: x5 :: x6 :: x7 :: x8 :: x9 :: x10 :: x11 :: x12 :: l) 12 x12 Q S := Al.mk rfl
theorem tl13 : Tl P md (x0 :: x1 :: x2 :: x3 :: x4 :: x5 :: x6 :: x7 :: x8 :: x9 :: x10 :: x11 :: x12 :: x13 :: l) 13 x13 Q S := Tl.mk rfl
theorem ul13 : Ul P md (x0 :: x1 :: x2 :: x3 :: x4 :: x5 :: x6 :: x7 :: x8 :: x9 :: x10 :: x11 :: x12 :: x13 :: l) 13 x13 Q S := Ul.mk rfl
theorem al13 : Al P md (x0 :: x1 :: x2 :: x3 :: x4 :: x5 :: x6 :: x7 :: x8 :: x9 :: x10 :: x11 :: x12 :: x13 :: l) 13 x13 Q S := Al.mk rfl
theorem tl14 : Tl P md (x0 :: x1 :: x2 :: x3 :: x4 :: x5 :: x6 :: x7 :: x8 :: x9 :: x10 :: x11 :: x12 :: x13 :: x14 :: l) 14 x14 Q S := Tl.mk rfl
theorem ul14 : Ul P md (x0 :: x1 :: x2 :: x3 :: x4 :: x5 :: x6 :: x7 :: x8 :: x9 :: x10 :: x11 :: x12 :: x13 :: x14 :: l) 14 x14 Q S := Ul.mk rfl
theorem al14 : Al P md (x0 :: x1 :: x2 :: x3 :: x4 :: x5 :: x6 :: x7 :: x8 :: x9 :: x10 :: x11 :: x12 :: x13 :: x14 :: l) 14 x14 Q S := Al.mk rfl
theorem tl15 : Tl P md (x0 :: x1 :: x2 :: x3 :: x4 :: x5 :: x6 :: x7 :: x8 :: x9 :: x10 :: x11 :: x12 :: x13 :: x14 :: x15 :: l) 15 x15 Q S := Tl.mk rfl
theorem ul15 : Ul P md (x0 :: x1 :: x2 :: x3 :: x4 :: x5 :: x6 :: x7 :: x8 :: x9 :: x10 :: x11 :: x12 :: x13 :: x14 :: x15 :: l) 15 x15 Q S := Ul.mk rfl
theorem al15 : Al P md (x0 :: x1 :: x2 :: x3 :: x4 :: x5 :: x6 :: x7 :: x8 :: x9 :: x10 :: x11 :: x12 :: x13 :: x14 :: x15 :: l) 15 x15 Q S := Al.mk rfl
theorem tl16 : Tl P md (x0 :: x1 :: x2 :: x3 :: x4 :: x5 :: x6 :: x7 :: x8 :: x9 :: x10 :: x11 :: x12 :: x13 :: x14 :: x15 :: x16 :: l) 16 x16 Q S := Tl.mk rfl
theorem ul16 : Ul P md (x0 :: x1 :: x2 :: x3 :: x4 :: x5 :: x6 :: x7 :: x8 :: x9 :: x10 :: x11 :: x12 :: x13 :: x14 :: x15 :: x16 :: l) 16 x16 Q S := Ul.mk rfl
theorem al16 : Al P md (x0 :: x1 :: x2 :: x3 :: x4 :: x5 :: x6 :: x7 :: x8 :: x9 :: x10 :: x11 :: x12 :: x13 :: x14 :: x15 :: x16 :: l) 16 x16 Q S := Al.mk rfl
theorem tl17 : Tl P md (x0 :: x1 :: x2 :: x3 :: x4 :: x5 :: x6 :: x7 :: x8 :: x9 :: x10 :: x11 :: x12 :: x13 :: x14 :: x15 :: x16 :: x17 :: l) 17 x17 Q S := Tl.mk rfl
theorem ul17 : Ul P md (x0 :: x1 :: x2 :: x3 :: x4 :: x5 :: x6 :: x7 :: x8 :: x9 :: x10 :: x11 :: x12 :: x13 :: x14 :: x15 :: x16 :: x17 :: l) 17 x17 Q S := Ul.mk rfl
theorem al17 : Al P md (x0 :: x1 :: x2 :: x3 :: x4 :: x5 :: x6 :: x7 :: x8 :: x9 :: x10 :: x11 :: x12 :: x13 :: x14 :: x15 :: x16 :: x17 :: l) 17 x17 Q S := Al.mk rfl
theorem tl18 : Tl P md (x0 :: x1 :: x2 :: x3 :: x4 :: x5 :: x6 :: x7 :: x8 :: x9 :: x10 :: x11 :: x12 :: x13 :: x14 :: x15 :: x16 :: x17 :: x18 :: l) 18 x18 Q S := Tl.mk rfl
theorem ul18 : Ul P md (x0 :: x1 :: x2 :: x3 :: x4 :: x5 :: x6 :: x7 :: x8 :: x9 :: x10 :: x11 :: x12 :: x13 :: x14 :: x15 :: x16 :: x17 :: x18 :: l) 18 x18 Q S := Ul.mk rfl
theorem al18 : Al P md (x0 :: x1 :: x2 :: x3 :: x4 :: x5 :: x6 :: x7 :: x8 :: x9 :: x10 :: x11 :: x12 :: x13 :: x14 :: x15 :: x16 :: x17 :: x18 :: l) 18 x18 Q S := Al.mk rfl
theorem tl19 : Tl P md (x0 :: x1 :: x2 :: x3 :: x4 :: x5 :: x6 :: x7 :: x8 :: x9 :: x10 :: x11 :: x12 :: x13 :: x14 :: x15 :: x16 :: x17 :: x18 :: x19 :: l) 19 x19 Q S := Tl.mk rfl
theorem ul19 : Ul P md (x0 :: x1 :: x2 :: x3 :: x4 :: x5 :: x6 :: x7 :: x8 :: x9 :: x10 :: x11 :: x12 :: x13 :: x14 :: x15 :: x16 :: x17 :: x18 :: x19 :: l) 19 x19 Q S := Ul.mk rfl
theorem al19 : Al P md (x0 :: x1 :: x2 :: x3 :: x4 :: x5 :: x6 :: x7 :: x8 :: x9 :: x10 :: x11 :: x12 :: x13 :: x14 :: x15 :: x16 :: x17 :: x18 :: x19 :: l) 19 x19 Q S := Al.mk rfl
theorem tl20 : Tl P md (x0 :: x1 :: x2 :: x3 :: x4 :: x5 :: x6 :: x7 :: x8 :: x9 :: x10 :: x11 :: x12 :: x13 :: x14 :: x15 :: x16 :: x17 :: x18 :: x19 :: x20 :: l) 20 x20 Q S := Tl.mk rfl
theorem ul20 : Ul P md (x0 :: x1 :: x2 :: x3 :: x4 :: x5 :: x6 :: x7 :: x8 :: x9 :: x10 :: x11 :: x12 :: x13 :: x14 :: x15 :: x16 :: x17 :: x18 :: x19 :: x20 :: l) 20 x20 Q S := Ul.mk rfl
theorem al20 : Al P md (x0 :: x1 :: x2 :: x3 :: x4 :: x5 :: x6 :: x7 :: x8 :: x9 :: x10 :: x11 :: x12 :: x13 :: x14 :: x15 :: x16 :: x17 :: x18 :: x19 :: x20 :: l) 20 x20 Q S := Al.mk rfl
theorem tl21 : Tl P md (x0 :: x1 :: x2 :: x3 :: x4 :: x5 :: x6 :: x7 :: x8 :: x9 :: x10 :: x11 :: x12 :: x13 :: x14 :: x15 :: x16 :: x17 :: x18 :: x19 :: x20 :: x21 :: l) 21 x21 Q S := Tl.mk rfl
theorem ul21 : Ul P md (x0 :: x1 :: x2 :: x3 :: x4 :: x5 :: x6 :: x7 :: x8 :: x9 :: x10 :: x11 :: x12 :: x13 :: x14 :: x15 :: x16 :: x17 :: x18 :: x19 :: x20 :: x21 :: l) 21 x21 Q S := Ul.mk rfl
theorem al21 : Al P md (x0 :: x1 :: x2 :: x3 :: x4 :: x5 :: x6 :: x7 :: x8 :: x9 :: x10 :: x11 :: x12 :: x13 :: x14 :: x15 :: x16 :: x17 :: x18 :: x19 :: x20 :: x21 :: l) 21 x21 Q S := Al.mk rfl
theorem tl22 : Tl P md (x0 :: x1 :: x2 :: x3 :: x4 :: x5 :: x6 :: x7 :: x8 :: x9 :: x10 :: x11 :: x12 :: x13 :: x14 :: x15 :: x16 :: x17 :: x18 :: x19 :: x20 :: x21 :: x22 :: l) 22 x22 Q S := Tl.mk rfl
theorem ul22 : Ul P md (x0 :: x1 :: x2 :: x3 :: x4 :: x5 :: x6 :: x7 :: x8 :: x9 :: x10 :: x11 :: x12 :: x13 :: x14 :: x15 :: x16 :: x17 :: x18 :: x19 :: x20 :: x21 :: x22 :: l) 22 x22 Q S := Ul.mk rfl
theorem al22 : Al P md (x0 :: x1 :: x2 :: x3 :: x4 :: x5 :: x6 :: x7 :: x8 :: x9 :: x10 :: x11 :: x12 :: x13 :: x14 :: x15 :: x16 :: x17 :: x18 :: x19 :: x20 :: x21 :: x22 :: l) 22 x22 Q S := Al.mk rfl
theorem tl23 : Tl P md (x0 :: x1 :: x2 :: x3 :: x4 :: x5 :: x6 :: x7 :: x8 :: x9 :: x10 :: x11 :: x12 :: x13 :: x14 :: x15 :: x16 :: x17 :: x18 :: x19 :: x20 :: x21 :: x22 :: x23 :: l) 23 x23 Q S := Tl.mk rfl
theorem ul23 : Ul P md (x0 :: x1 :: x2 :: x3 :: x4 :: x5 :: x6 :: x7 :: x8 :: x9 :: x10 :: x11 :: x12 :: x13 :: x14 :: x15 :: x16 :: x17 :: x18 :: x19 :: x20 :: x21 :: x22 :: x23 :: l) 23 x23 Q S := Ul.mk rfl
theorem al23 : Al P md (x0 :: x1 :: x2 :: x3 :: x4 :: x5 :: x6 :: x7 :: x8 :: x9 :: x10 :: x11 :: x12 :: x13 :: x14 :: x15 :: x16 :: x17 :: x18 :: x19 :: x20 :: x21 :: x22 :: x23 :: l) 23 x23 Q S := Al.mk rfl
theorem tl24 : Tl P md (x0 :: x1 :: x2 :: x3 :: x4 :: x5 :: x6 :: x7 :: x8 :: x9 :: x10 :: x11 :: x12 :: x13 :: x14 :: x15 :: x16 :: x17 :: x18 :: x19 :: x20 :: x21 :: x22 :: x23 :: x24 :: l) 24 x24 Q S := Tl.mk rfl
theorem ul24 : Ul P md (x0 :: x1 :: x2 :: x3 :: x4 :: x5 :: x6 :: x7 :: x8 :: x9 :: x10 :: x11 :: x12 :: x13 :: x14 :: x15 :: x16 :: x17 :: x18 :: x19 :: x20 :: x21 :: x22 :: x23 :: x24 :: l) 24 x24 Q S := Ul.mk rfl
theorem al24 : Al P md (x0 :: x1 :: x2 :: x3 :: x4 :: x5 :: x6 :: x7 :: x8 :: x9 :: x10 :: x11 :: x12 :: x13 :: x14 :: x15 :: x16 :: x17 :: x18 :: x19 :: x20 :: x21 :: x22 :: x23 :: x24 :: l) 24 x24 Q S := Al.mk rfl
theorem tl25 : Tl P md (x0 :: x1 :: x2 :: x3 :: x4 :: x5 :: x6 :: x7 :: x8 :: x9 :: x10 :: x11 :: x12 :: x13 :: x14 :: x15 :: x16 :: x17 :: x18 :: x19 :: x20 :: x21 :: x22 :: x23 :: x24 :: x25 :: l) 25 x25 Q S := Tl.mk rfl
theorem ul25 : Ul P md (x0 :: x1 :: x2 :: x3 :: x4 :: x5 :: x6 :: x7 :: x8 :: x9 :: x10 :: x11 :: x12 :: x13 :: x14 :: x15 :: x16 :: x17 :: x18 :: x19 :: x20 :: x21 :: x22 :: x23 :: x24 :: x25 :: l) 25 x25 Q S := Ul.mk rfl
theorem tl26 : Tl P md (x0 :: x1 :: x2 :: x3 :: x4 :: x5 :: x6 :: x7 :: x8 :: x9 :: x10 :: x11 :: x12 :: x13 :: x14 :: x15 :: x16 :: x17 :: x18 :: x19 :: x20 :: x21 :: x22 :: x23 :: x24 :: x25 :: x26 :: l) 26 x26 Q S := Tl.mk rfl
theorem ul26 : Ul P md (x0 :: x1 :: x2 :: x3 :: x4 :: x5 :: x6 :: x7 :: x8 :: x9 :: x10 :: x11 :: x12 :: x13 :: x14 :: x15 :: x16 :: x17 :: x18 :: x19 :: x20 :: x21 :: x22 :: x23 :: x24 :: x25 :: x26 :: l) 26 x26 Q S := Ul.mk rfl
theorem al26 : Al P md (x0 :: x1 :: x2 :: x3 :: x4 :: x5 :: x6 :: x7 :: x8 :: x9 :: x10 :: x11 :: x12 :: x13 :: x14 :: x15 :: x16 :: x17 :: x18 :: x19 :: x20 :: x21 :: x22 :: x23 :: x24 :: x25 :: x26 :: l) 26 x26 Q S := Al.mk rfl
theorem tl27 : Tl P md (x0 :: x1 :: x2 :: x3 :: x4 :: x5 :: x6 :: x7 :: x8 :: x9 :: x10 :: x11 :: x12 :: x13 :: x14 :: x15 :: x16 :: x17 :: x18 :: x19 :: x20 :: x21 :: x22 :: x23 :: x24 :: x25 :: x26 :: x27 :: l) 27 x27 Q S := Tl.mk rfl
theorem ul27 : Ul P md (x0 :: x1 :: x2 :: x3 :: x4 :: x5 :: x6 :: x7 :: x8 :: x9 :: x10 :: x11 :: x12 :: x13 :: x14 :: x15 :: x16 :: x17 :: x18 :: x19 :: x20 :: x21 :: x22 :: x23 :: x24 :: x25 :: x26 :: x27 :: l) 27 x27 Q S := Ul.mk rfl
theorem tl28 : Tl P md (x0 :: x1 :: x2 :: x3 :: x4 :: x5 :: x6 :: x7 :: x8 :: x9 :: x10 :: x11 :: x12 :: x13 :: x14 :: x15 :: x16 :: x17 :: x18 :: x19 :: x20 :: x21 :: x22 :: x23 :: x24 :: x25 :: x26 :: x27 :: x28 :: l) 28 x28 Q S := Tl.mk rfl
theorem ul28 : Ul P md (x0 :: x1 :: x2 :: x3 :: x4 :: x5 :: x6 :: x7 :: x8 :: x9 :: x10 :: x11 :: x12 :: x13 :: x14 :: x15 :: x16 :: x17 :: x18 :: x19 :: x20 :: x21 :: x22 :: x23 :: x24 :: x25 :: x26 :: x27 :: x28 :: l) 28 x28 Q S := Ul.mk rfl
theorem tl29 : Tl P md (x0 :: x1 :: x2 :: x3 :: x4 :: x5 :: x6 :: x7 :: x8 :: x9 :: x10 :: x11 :: x12 :: x13 :: x14 :: x15 :: x16 :: x17 :: x18 :: x19 :: x20 :: x21 :: x22 :: x23 :: x24 :: x25 :: x26 :: x27 :: x28 :: x29 :: l) 29 x29 Q S := Tl.mk rfl
theorem ul29 : Ul P md (x0 :: x1 :: x2 :: x3 :: x4 :: x5 :: x6 :: x7 :: x8 :: x9 :: x10 :: x11 :: x12 :: x13 :: x14 :: x15 :: x16 :: x17 :: x18 :: x19 :: x20 :: x21 :: x22 :: x23 :: x24 :: x25 :: x26 :: x27 :: x28 :: x29 :: l) 29 x29 Q S := Ul.mk rfl
theorem tl30 : Tl P md (x0 :: x1 :: x2 :: x3 :: x4 :: x5 :: x6 :: x7 :: x8 :: x9 :: x10 :: x11 :: x12 :: x13 :: x14 :: x15 :: x16 :: x17 :: x18 :: x19 :: x20 :: x21 :: x22 :: x23 :: x24 :: x25 :: x26 :: x27 :: x28 :: x29 :: x30 :: l) 30 x30 Q S := Tl.mk rfl
theorem ul30 : Ul P md (x0 :: x1 :: x2 :: x3 :: x4 :: x5 :: x6 :: x7 :: x8 :: x9 :: x10 :: x11 :: x12 :: x13 :: x14 :: x15 :: x16 :: x17 :: x18 :: x19 :: x20 :: x21 :: x22 :: x23 :: x24 :: x25 :: x26 :: x27 :: x28 :: x29 :: x30 :: l) 30 x30 Q S := Ul.mk rfl
theorem tl31 : Tl P md (x0 :: x1 :: x2 :: x3 :: x4 :: x5 :: x6 :: x7 :: x8 :: x9 :: x10 :: x11 :: x12 :: x13 :: x14 :: x15 :: x16 :: x17 :: x18 :: x19 :: x20 :: x21 :: x22 :: x23 :: x24 :: x25 :: x26 :: x27 :: x28 :: x29 :: x30 :: x31 :: l) 31 x31 Q S := Tl.mk rfl
theorem ul31 : Ul P md (x0 :: x1 :: x2 :: x3 :: x4 :: x5 :: x6 :: x7 :: x8 :: x9 :: x10 :: x11 :: x12 :: x13 :: x14 :: x15 :: x16 :: x17 :: x18 :: x19 :: x20 :: x21 :: x22 :: x23 :: x24 :: x25 :: x26 :: x27 :: x28 :: x29 :: x30 :: x31 :: l) 31 x31 Q S := Ul.mk rfl
theorem tl32 : Tl P md (x0 :: x1 :: x2 :: x3 :: x4 :: x5 :: x6 :: x7 :: x8 :: x9 :: x10 :: x11 :: x12 :: x13 :: x14 :: x15 :: x16 :: x17 :: x18 :: x19 :: x20 :: x21 :: x22 :: x23 :: x24 :: x25 :: x26 :: x27 :: x28 :: x29 :: x30 :: x31 :: x32 :: l) 32 x32 Q S := Tl.mk rfl
theorem ul32 : Ul P md (x0 :: x1 :: x2 :: x3 :: x4 :: x5 :: x6 :: x7 :: x8 :: x9 :: x10 :: x11 :: x12 :: x13 :: x14 :: x15 :: x16 :: x17 :: x18 :: x19 :: x20 :: x21 :: x22 :: x23 :: x24 :: x25 :: x26 :: x27 :: x28 :: x29 :: x30 :: x31 :: x32 :: l) 32 x32 Q S := Ul.mk rfl
theorem al32 : Al P md (x0 :: x1 :: x2 :: x3 :: x4 :: x5 :: x6 :: x7 :: x8 :: x9 :: x10 :: x11 :: x12 :: x13 :: x14 :: x15 :: x16 :: x17 :: x18 :: x19 :: x20 :: x21 :: x22 :: x23 :: x24 :: x25 :: x26 :: x27 :: x28 :: x29 :: x30 :: x31 :: x32 :: l) 32 x32 Q S := Al.mk rfl
theorem tl33 : Tl P md (x0 :: x1 :: x2 :: x3 :: x4 :: x5 :: x6 :: x7 :: x8 :: x9 :: x10 :: x11 :: x12 :: x13 :: x14 :: x15 :: x16 :: x17 :: x18 :: x19 :: x20 :: x21 :: x22 :: x23 :: x24 :: x25 :: x26 :: x27 :: x28 :: x29 :: x30 :: x31 :: x32 :: x33 :: l) 33 x33 Q S := Tl.mk rfl
theorem ul33 : Ul P md (x0 :: x1 :: x2 :: x3 :: x4 :: x5 :: x6 :: x7 :: x8 :: x9 :: x10 :: x11 :: x12 :: x13 :: x14 :: x15 :: x16 :: x17 :: x18 :: x19 :: x20 :: x21 :: x22 :: x23 :: x24 :: x25 :: x26 :: x27 :: x28 :: x29 :: x30 :: x31 :: x32 :: x33 :: l) 33 x33 Q S := Ul.mk rfl
theorem tl34 : Tl P md (x0 :: x1 :: x2 :: x3 :: x4 :: x5 :: x6 :: x7 :: x8 :: x9 :: x10 :: x11 :: x12 :: x13 :: x14 :: x15 :: x16 :: x17 :: x18 :: x19 :: x20 :: x21 :: x22 :: x23 :: x24 :: x25 :: x26 :: x27 :: x28 :: x29 :: x30 :: x31 :: x32 :: x33 :: x34 :: l) 34 x34 Q S := Tl.mk rfl
theorem ul34 : Ul P md (x0 :: x1 :: x2 :: x3 :: x4 :: x5 :: x6 :: x7 :: x8 :: x9 :: x10 :: x11 :: x12 :: x13 :: x14 :: x15 :: x16 :: x17 :: x18 :: x19 :: x20 :: x21 :: x22 :: x23 :: x24 :: x25 :: x26 :: x27 :: x28 :: x29 :: x30 :: x31 :: x32 :: x33 :: x34 :: l) 34 x34 Q S := Ul.mk rfl
theorem tl35 : Tl P md (x0 :: x1 :: x2 :: x3 :: x4 :: x5 :: x6 :: x7 :: x8 :: x9 :: x10 :: x11 :: x12 :: x13 :: x14 :: x15 :: x16 :: x17 :: x18 :: x19 :: x20 :: x21 :: x22 :: x23 :: x24 :: x25 :: x26 :: x27 :: x28 :: x29 :: x30 :: x31 :: x32 :: x33 :: x34 :: x35 :: l) 35 x35 Q S := Tl.mk rfl
theorem ul35 : Ul P md (x0 :: x1 :: x2 :: x3 :: x4 :: x5 :: x6 :: x7 :: x8 :: x9 :: x10 :: x11 :: x12 :: x13 :: x14 :: x15 :: x16 :: x17 :: x18 :: x19 :: x20 :: x21 :: x22 :: x23 :: x24 :: x25 :: x26 :: x27 :: x28 :: x29 :: x30 :: x31 :: x32 :: x33 :: x34 :: x35 :: l) 35 x35 Q S := Ul.mk rfl
theorem tl36 : Tl P md (x0 :: x1 :: x2 :: x3 :: x4 :: x5 :: x6 :: x7 :: x8 :: x9 :: x10 :: x11 :: x12 :: x13 :: x14 :: x15 :: x16 :: x17 :: x18 :: x19 :: x20 :: x21 :: x22 :: x23 :: x24 :: x25 :: x26 :: x27 :: x28 :: x29 :: x30 :: x31 :: x32 :: x33 :: x34 :: x35 :: x36 :: l) 36 x36 Q S := Tl.mk rfl
theorem ul36 : Ul P md (x0 :: x1 :: x2 :: x3 :: x4 :: x5 :: x6 :: x7 :: x8 :: x9 :: x10 :: x11 :: x12 :: x13 :: x14 :: x15 :: x16 :: x17 :: x18 :: x19 :: x20 :: x21 :: x22 :: x23 :: x24 :: x25 :: x26 :: x27 :: x28 :: x29 :: x30 :: x31 :: x32 :: x33 :: x34 :: x35 :: x36 :: l) 36 x36 Q S := Ul.mk rfl
theorem al36 : Al P md (x0 :: x1 :: x2 :: x3 :: x4 :: x5 :: x6 :: x7 :: x8 :: x9 :: x10 :: x11 :: x12 :: x13 :: x14 :: x15 :: x16 :: x17 :: x18 :: x19 :: x20 :: x21 :: x22 :: x23 :: x24 :: x25 :: x26 :: x27 :: x28 :: x29 :: x30 :: x31 :: x32 :: x33 :: x34 :: x35 :: x36 :: l) 36 x36 Q S := Al.mk rfl
theorem tl37 : Tl P md (x0 :: x1 :: x2 :: x3 :: x4 :: x5 :: x6 :: x7 :: x8 :: x9 :: x10 :: x11 :: x12 :: x13 :: x14 :: x15 :: x16 :: x17 :: x18 :: x19 :: x20 :: x21 :: x22 :: x23 :: x24 :: x25 :: x26 :: x27 :: x28 :: x29 :: x30 :: x31 :: x32 :: x33 :: x34 :: x35 :: x36 :: x37 :: l) 37 x37 Q S := Tl.mk rfl
theorem ul37 : Ul P md (x0 :: x1 :: x2 :: x3 :: x4 :: x5 :: x6 :: x7 :: x8 :: x9 :: x10 :: x11 :: x12 :: x13 :: x14 :: x15 :: x16 :: x17 :: x18 :: x19 :: x20 :: x21 :: x22 :: x23 :: x24 :: x25 :: x26 :: x27 :: x28 :: x29 :: x30 :: x31 :: x32 :: x33 :: x34 :: x35 :: x36 :: x37 :: l) 37 x37 Q S := Ul.mk rfl
theorem tl38 : Tl P md (x0 :: x1 :: x2 :: x3 :: x4 :: x5 :: x6 :: x7 :: x8 :: x9 :: x10 :: x11 :: x12 :: x13 :: x14 :: x15 :: x16 :: x17 :: x18 :: x19 :: x20 :: x21 :: x22 :: x23 :: x24 :: x25 :: x26 :: x27 :: x28 :: x29 :: x30 :: x31 :: x32 :: x33 :: x34 :: x35 :: x36 :: x37 :: x38 :: l) 38 x38 Q S := Tl.mk rfl
theorem ul38 : Ul P md (x0 :: x1 :: x2 :: x3 :: x4 :: x5 :: x6 :: x7 :: x8 :: x9 :: x10 :: x11 :: x12 :: x13 :: x14 :: x15 :: x16 :: x17 :: x18 :: x19 :: x20 :: x21 :: x22 :: x23 :: x24 :: x25 :: x26 :: x27 :: x28 :: x29 :: x30 :: x31 :: x32 :: x33 :: x34 :: x35 :: x36 :: x37 :: x38 :: l) 38 x38 Q S := Ul.mk rfl
theorem tl39 : Tl P md (x0 :: x1 :: x2 :: x3 :: x4 :: x5 :: x6 :: x7 :: x8 :: x9 :: x10 :: x11 :: x12 :: x13 :: x14 :: x15 :: x16 :: x17 :: x18 :: x19 :: x20 :: x21 :: x22 :: x23 :: x24 :: x25 :: x26 :: x27 :: x28 :: x29 :: x30 :: x31 :: x32 :: x33 :: x34 :: x35 :: x36 :: x37 :: x38 :: x39 :: l) 39 x39 Q S := Tl.mk rfl
theorem ul39 : Ul P md (x0 :: x1 :: x2 :: x3 :: x4 :: x5 :: x6 :: x7 :: x8 :: x9 :: x10 :: x11 :: x12 :: x13 :: x14 :: x15 :: x16 :: x17 :: x18 :: x19 :: x20 :: x21 :: x22 :: x23 :: x24 :: x25 :: x26 :: x27 :: x28 :: x29 :: x30 :: x31 :: x32 :: x33 :: x34 :: x35 :: x36 :: x37 :: x38 :: x39 :: l) 39 x39 Q S := Ul.mk rfl
theorem tl40 : Tl P md (x0 :: x1 :: x2 :: x3 :: x4 :: x5 :: x6 :: x7 :: x8 :: x9 :: x10 :: x11 :: x12 :: x13 :: x14 :: x15 :: x16 :: x17 :: x18 :: x19 :: x20 :: x21 :: x22 :: x23 :: x24 :: x25 :: x26 :: x27 :: x28 :: x29 :: x30 :: x31 :: x32 :: x33 :: x34 :: x35 :: x36 :: x37 :: x38 :: x39 :: x40 :: l) 40 x40 Q S := Tl.mk rfl
theorem ul40 : Ul P md (x0 :: x1 :: x2 :: x3 :: x4 :: x5 :: x6 :: x7 :: x8 :: x9 :: x10 :: x11 :: x12 :: x13 :: x14 :: x15 :: x16 :: x17 :: x18 :: x19 :: x20 :: x21 :: x22 :: x23 :: x24 :: x25 :: x26 :: x27 :: x28 :: x29 :: x30 :: x31 :: x32 :: x33 :: x34 :: x35 :: x36 :: x37 :: x38 :: x39 :: x40 :: l) 40 x40 Q S := Ul.mk rfl
theorem tl41 : Tl P md (x0 :: x1 :: x2 :: x3 :: x4 :: x5 :: x6 :: x7 :: x8 :: x9 :: x10 :: x11 :: x12 :: x13 :: x14 :: x15 :: x16 :: x17 :: x18 :: x19 :: x20 :: x21 :: x22 :: x23 :: x24 :: x25 :: x26 :: x27 :: x28 :: x29 :: x30 :: x31 :: x32 :: x33 :: x34 :: x35 :: x36 :: x37 :: x38 :: x39 :: x40 :: x41 :: l) 41 x41 Q S := Tl.mk rfl
theorem ul41 : Ul P md (x0 :: x1 :: x2 :: x3 :: x4 :: x5 :: x6 :: x7 :: x8 :: x9 :: x10 :: x11 :: x12 :: x13 :: x14 :: x15 :: x16 :: x17 :: x18 :: x19 :: x20 :: x21 :: x22 :: x23 :: x24 :: x25 :: x26 :: x27 :: x28 :: x29 :: x30 :: x31 :: x32 :: x33 :: x34 :: x35 :: x36 :: x37 :: x38 :: x39 :: x40 :: x41 :: l) 41 x41 Q S := Ul.mk rfl
theorem tl42 : Tl P md (x0 :: x1 :: x2 :: x3 :: x4 :: x5 :: x6 :: x7 :: x8 :: x9 :: x10 :: x11 :: x12 :: x13 :: x14 :: x15 :: x16 :: x17 :: x18 :: x19 :: x20 :: x21 :: x22 :: x23 :: x24 :: x25 :: x26 :: x27 :: x28 :: x29 :: x30 :: x31 :: x32 :: x33 :: x34 :: x35 :: x36 :: x37 :: x38 :: x39 :: x40 :: x41 :: x42 :: l) 42 x42 Q S := Tl.mk rfl
theorem ul42 : Ul P md (x0 :: x1 :: x2 :: x3 :: x4 :: x5 :: x6 :: x7 :: x8 :: x9 :: x10 :: x11 :: x12 :: x13 :: x14 :: x15 :: x16 :: x17 :: x18 :: x19 :: x20 :: x21 :: x22 :: x23 :: x24 :: x25 :: x26 :: x27 :: x28 :: x29 :: x30 :: x31 :: x32 :: x33 :: x34 :: x35 :: x36 :: x37 :: x38 :: x39 :: x40 :: x41 :: x42 :: l) 42 x42 Q S := Ul.mk rfl
theorem al43 : Al P md (x0 :: x1 :: x2 :: x3 :: x4 :: x5 :: x6 :: x7 :: x8 :: x9 :: x10 :: x11 :: x12 :: x13 :: x14 :: x15 :: x16 :: x17 :: x18 :: x19 :: x20 :: x21 :: x22 :: x23 :: x24 :: x25 :: x26 :: x27 :: x28 :: x29 :: x30 :: x31 :: x32 :: x33 :: x34 :: x35 :: x36 :: x37 :: x38 :: x39 :: x40 :: x41 :: x42 :: x43 :: l) 43 x43 Q S := Al.mk rfl
end
theorem Tl.go {P : Program} {Q : Exit → Act → World → Prop} {md : Region.Mode} {S : World → Prop} {L : List Oper} {i : Nat} {o : Oper} (h : Tl P md L i o Q S) {z fuel : Nat} {listed : Array Bool} {a a' : Act} {w : World} {v : Value} (H : wpAnyL P md L.toArray Q S z fuel (listed.setIfInBounds i true) a' w)
  (h1 : (Region.noSelect L.toArray && Region.free md L.toArray listed i && (Region.ready md L.toArray listed).contains i && closedR md L.toArray listed && lastR md L.toArray z && i != z) = true := by decide +kernel) (h2 : Region.wanted o (yielded L.toArray a.tmps) = true := by rfl) (h3 : ∀ c a w, Q (.panic c) (a.put o.dst v) w → Q (.panic c) a w := by exact fun _ _ _ => id)
  (h4 : ∀ w, S w → (execOp a.eval o).run P w = .ok (.value v) w := by intro w_ hSw; have hSw := hSw.cells; simp only [Cells] at hSw; go_simp; all_goals (with_reducible rfl); done) (h5 : S w := by assumption) (h6 : a.put o.dst v = a' := by first | (simp only [Act.put, List.setIfInBounds_toArray, List.set_cons_zero, List.set_cons_succ]; done) | (simp only [Act.put, List.setIfInBounds_toArray, List.set_cons_zero, List.set_cons_succ]; rfl) | rfl) : wpAnyL P md L.toArray Q S z (fuel + 1) listed a w := by
 subst h6; exact h v h1 h2 h3 h4 h5 H
theorem Ul.go {P : Program} {Q : Exit → Act → World → Prop} {md : Region.Mode} {S : World → Prop} {L : List Oper} {i : Nat} {o : Oper} (h : Ul P md L i o Q S) {z fuel : Nat} {listed : Array Bool} {a a' : Act} {w : World} (H : wpAnyL P md L.toArray Q S z fuel (listed.setIfInBounds i true) a' w)
  (h1 : (Region.noSelect L.toArray && Region.free md L.toArray listed i && (Region.ready md L.toArray listed).contains i && closedR md L.toArray listed && lastR md L.toArray z && i != z) = true := by kernel_rfl) (h2 : Region.wanted o (yielded L.toArray a.tmps) = false := by rfl) (h3 : ∀ c a w, Q (.panic c) (a.put o.dst undef) w → Q (.panic c) a w := by exact fun _ _ _ => id) (h5 : S w := by assumption) (h6 : a.put o.dst undef = a' := by first | (simp only [Act.put, List.setIfInBounds_toArray, List.set_cons_zero, List.set_cons_succ]; done) | (simp only [Act.put, List.setIfInBounds_toArray, List.set_cons_zero, List.set_cons_succ]; rfl) | rfl) : wpAnyL P md L.toArray Q S z (fuel + 1) listed a w := by
 subst h6; exact h h1 h2 h3 h5 H
theorem Al.ret {P : Program} {Q : Exit → Act → World → Prop} {md : Region.Mode} {S : World → Prop} {L : List Oper} {i : Nat} {o : Oper} (h : Al P md L i o Q S) {z fuel : Nat} {listed : Array Bool} {a a' : Act} {w : World} {f : FuncId} {args : Array Value} {v : Value} {r : Result Next}
  (hC : Calls P f args w fun e w' => e = .returned v ∧ Go.RowKit.Below w.heap.size w w') (H : ∀ w2, Go.RowKit.Below w.heap.size w w2 → S w2 → wpAnyL P md L.toArray Q S z fuel (listed.setIfInBounds i true) a' w2)
  (hS : ∀ w2, Go.RowKit.Below w.heap.size w w2 → S w2 := by intro w2 hb2; exact hHeld.keep hb2) (h1 : Region.ready md L.toArray listed = [i] := by kernel_rfl) (h2 : Region.wanted o (yielded L.toArray a.tmps) = true := by rfl)
  (h3 : (execOp a.eval o).run P w = r := by first | (go_simp; done) | (go_simp; rfl)) (h5 : r = .ok (.enter f args) w := by rfl) (h4 : a.put o.dst v = a' := by first | (simp only [Act.put, List.setIfInBounds_toArray, List.set_cons_zero, List.set_cons_succ]; done) | (simp only [Act.put, List.setIfInBounds_toArray, List.set_cons_zero, List.set_cons_succ]; rfl) | rfl) : wpAnyL P md L.toArray Q S z (fuel + 1) listed a w := by
 refine wpAnyL_ready (rs := [i]) h1 (by simp) (h (fun K hK => ?_) AllReadyL.nil)
 rw [if_pos h2]
 unfold Oper.wp
 rw [h3, h5, Oper.upon_enter]
 refine hC.mono fun e w2 he => ?_
 obtain ⟨rfl, hb⟩ := he
 refine hK.out _ _ (fun _ => hS w2 hb) (fun _ => ?_)
 rw [h4]
 exact H w2 hb (hS w2 hb)
end Go.Proofs.YtbpjnkeilhfajaaGreat
