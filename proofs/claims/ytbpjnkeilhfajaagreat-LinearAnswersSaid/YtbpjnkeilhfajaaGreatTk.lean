/- Steps through a region of open order, by an operation's place. -/
import Derived.Deep.RegionHeld
namespace Go.Proofs.YtbpjnkeilhfajaaGreat
section
variable {P : Program} {Q : Exit → Act → World → Prop} {md : Region.Mode} {S : World → Prop}
def Tk (P : Program) (md : Region.Mode) (L : List Oper) (i : Nat) (o : Oper) (Q : Exit → Act → World → Prop) (S : World → Prop) : Prop :=
 ∀ {fuel : Nat} {listed : Array Bool} {a : Act} {w : World} (v : Value), (Region.noSelect L.toArray && Region.free md L.toArray listed i && (Region.ready md L.toArray listed).contains i) = true → Region.wanted o (yielded L.toArray a.tmps) = true → (∀ c a w, Q (.panic c) (a.put o.dst v) w → Q (.panic c) a w) → (∀ w, S w → (execOp a.eval o).run P w = .ok (.value v) w) → S w → wpAnyH P md L.toArray Q S fuel (listed.setIfInBounds i true) (a.put o.dst v) w → wpAnyH P md L.toArray Q S (fuel + 1) listed a w
def Un (P : Program) (md : Region.Mode) (L : List Oper) (i : Nat) (o : Oper) (Q : Exit → Act → World → Prop) (S : World → Prop) : Prop :=
 ∀ {fuel : Nat} {listed : Array Bool} {a : Act} {w : World}, (Region.noSelect L.toArray && Region.free md L.toArray listed i && (Region.ready md L.toArray listed).contains i) = true → Region.wanted o (yielded L.toArray a.tmps) = false → (∀ c a w, Q (.panic c) (a.put o.dst undef) w → Q (.panic c) a w) → S w → wpAnyH P md L.toArray Q S fuel (listed.setIfInBounds i true) (a.put o.dst undef) w → wpAnyH P md L.toArray Q S (fuel + 1) listed a w
def Ac (P : Program) (md : Region.Mode) (L : List Oper) (i : Nat) (o : Oper) (Q : Exit → Act → World → Prop) (S : World → Prop) : Prop :=
 ∀ {fuel : Nat} {listed : Array Bool} {a : Act} {w : World} {rs : List Nat}, (∀ K' : Act → World → Prop, Shut (∀ a w, S w → (S w → wpAnyH P md L.toArray Q S fuel (listed.setIfInBounds i true) a w) → K' a w) → if Region.wanted o (yielded L.toArray a.tmps) = true then Oper.wp P o a w K' Q else K' (a.put o.dst undef) w) → AllReadyH P md L.toArray Q S fuel listed a w rs → AllReadyH P md L.toArray Q S fuel listed a w (i :: rs)
theorem Tk.mk {L : List Oper} {i : Nat} {o : Oper} (h : L.toArray[i]? = some o) : Tk P md L i o Q S := fun v hb hw hQ hv hS H => by
 simp only [Bool.and_eq_true] at hb
 exact wpAnyH_take h hb.1.1 hb.1.2 hb.2 hQ (.inl ⟨hw, hv⟩) hS H
theorem Un.mk {L : List Oper} {i : Nat} {o : Oper} (h : L.toArray[i]? = some o) : Un P md L i o Q S := fun hb hw hQ hS H => by
 simp only [Bool.and_eq_true] at hb
 exact wpAnyH_take h hb.1.1 hb.1.2 hb.2 hQ (.inr ⟨hw, rfl⟩) hS H
theorem Ac.mk {L : List Oper} {i : Nat} {o : Oper} (h : L.toArray[i]? = some o) : Ac P md L i o Q S := fun H hs => AllReadyH.cons h H hs
variable {x0 x1 x2 x3 x4 x5 x6 x7 x8 x9 x10 x11 x12 x13 x14 x15 x16 x17 x18 x19 x20 x21 x22 x23 x24 x25 x26 x27 x28 x29 x30 x31 x32 x33 x34 x35 x36 x37 x38 x39 x40 x41 x42 x43 x44 x45 x46 x47 : Oper} {l : List Oper}
theorem tk0 : Tk P md (x0 :: l) 0 x0 Q S := Tk.mk rfl
theorem ac0 : Ac P md (x0 :: l) 0 x0 Q S := Ac.mk rfl
theorem tk1 : Tk P md (x0 :: x1 :: l) 1 x1 Q S := Tk.mk rfl
theorem ac1 : Ac P md (x0 :: x1 :: l) 1 x1 Q S := Ac.mk rfl
theorem tk2 : Tk P md (x0 :: x1 :: x2 :: l) 2 x2 Q S := Tk.mk rfl
theorem ac2 : Ac P md (x0 :: x1 :: x2 :: l) 2 x2 Q S := Ac.mk rfl
theorem tk3 : Tk P md (x0 :: x1 :: x2 :: x3 :: l) 3 x3 Q S := Tk.mk rfl
theorem un3 : Un P md (x0 :: x1 :: x2 :: x3 :: l) 3 x3 Q S := Un.mk rfl
theorem ac3 : Ac P md (x0 :: x1 :: x2 :: x3 :: l) 3 x3 Q S := Ac.mk rfl
theorem tk4 : Tk P md (x0 :: x1 :: x2 :: x3 :: x4 :: l) 4 x4 Q S := Tk.mk rfl
theorem un4 : Un P md (x0 :: x1 :: x2 :: x3 :: x4 :: l) 4 x4 Q S := Un.mk rfl
theorem ac4 : Ac P md (x0 :: x1 :: x2 :: x3 :: x4 :: l) 4 x4 Q S := Ac.mk rfl
theorem tk5 : Tk P md (x0 :: x1 :: x2 :: x3 :: x4 :: x5 :: l) 5 x5 Q S := Tk.mk rfl
theorem ac5 : Ac P md (x0 :: x1 :: x2 :: x3 :: x4 :: x5 :: l) 5 x5 Q S := Ac.mk rfl
theorem tk6 : Tk P md (x0 :: x1 :: x2 :: x3 :: x4 :: x5 :: x6 :: l) 6 x6 Q S := Tk.mk rfl
theorem ac6 : Ac P md (x0 :: x1 :: x2 :: x3 :: x4 :: x5 :: x6 :: l) 6 x6 Q S := Ac.mk rfl
theorem tk7 : Tk P md (x0 :: x1 :: x2 :: x3 :: x4 :: x5 :: x6 :: x7 :: l) 7 x7 Q S := Tk.mk rfl
theorem ac7 : Ac P md (x0 :: x1 :: x2 :: x3 :: x4 :: x5 :: x6 :: x7 :: l) 7 x7 Q S := Ac.mk rfl
theorem tk8 : Tk P md (x0 :: x1 :: x2 :: x3 :: x4 :: x5 :: x6 :: x7 :: x8 :: l) 8 x8 Q S := Tk.mk rfl
theorem ac8 : Ac P md (x0 :: x1 :: x2 :: x3 :: x4 :: x5 :: x6 :: x7 :: x8 :: l) 8 x8 Q S := Ac.mk rfl
theorem tk9 : Tk P md (x0 :: x1 :: x2 :: x3 :: x4 :: x5 :: x6 :: x7 :: x8 :: x9 :: l) 9 x9 Q S := Tk.mk rfl
theorem ac9 : Ac P md (x0 :: x1 :: x2 :: x3 :: x4 :: x5 :: x6 :: x7 :: x8 :: x9 :: l) 9 x9 Q S := Ac.mk rfl
theorem tk10 : Tk P md (x0 :: x1 :: x2 :: x3 :: x4 :: x5 :: x6 :: x7 :: x8 :: x9 :: x10 :: l) 10 x10 Q S := Tk.mk rfl
theorem ac10 : Ac P md (x0 :: x1 :: x2 :: x3 :: x4 :: x5 :: x6 :: x7 :: x8 :: x9 :: x10 :: l) 10 x10 Q S := Ac.mk rfl
theorem tk11 : Tk P md (x0 :: x1 :: x2 :: x3 :: x4 :: x5 :: x6 :: x7 :: x8 :: x9 :: x10 :: x11 :: l) 11 x11 Q S := Tk.mk rfl
theorem ac11 : Ac P md (x0 :: x1 :: x2 :: x3 :: x4 :: x5 :: x6 :: x7 :: x8 :: x9 :: x10 :: x11 :: l) 11 x11 Q S := Ac.mk rfl
theorem tk12 : Tk P md (x0 :: x1 :: x2 :: x3 :: x4 :: x5 :: x6 :: x7 :: x8 :: x9 :: x10 :: x11 :: x12 :: l) 12 x12 Q S := Tk.mk rfl
theorem ac12 : Ac P md (x0 :: x1 :: x2 :: x3 :: x4 :: x5 :: x6 :: x7 :: x8 :: x9 :: x10 :: x11 :: x12 :: l) 12 x12 Q S := Ac.mk rfl
theorem tk13 : Tk P md (x0 :: x1 :: x2 :: x3 :: x4 :: x5 :: x6 :: x7 :: x8 :: x9 :: x10 :: x11 :: x12 :: x13 :: l) 13 x13 Q S := Tk.mk rfl
theorem ac13 : Ac P md (x0 :: x1 :: x2 :: x3 :: x4 :: x5 :: x6 :: x7 :: x8 :: x9 :: x10 :: x11 :: x12 :: x13 :: l) 13 x13 Q S := Ac.mk rfl
theorem tk14 : Tk P md (x0 :: x1 :: x2 :: x3 :: x4 :: x5 :: x6 :: x7 :: x8 :: x9 :: x10 :: x11 :: x12 :: x13 :: x14 :: l) 14 x14 Q S := Tk.mk rfl
theorem ac14 : Ac P md (x0 :: x1 :: x2 :: x3 :: x4 :: x5 :: x6 :: x7 :: x8 :: x9 :: x10 :: x11 :: x12 :: x13 :: x14 :: l) 14 x14 Q S := Ac.mk rfl
theorem tk15 : Tk P md (x0 :: x1 :: x2 :: x3 :: x4 :: x5 :: x6 :: x7 :: x8 :: x9 :: x10 :: x11 :: x12 :: x13 :: x14 :: x15 :: l) 15 x15 Q S := Tk.mk rfl
theorem ac15 : Ac P md (x0 :: x1 :: x2 :: x3 :: x4 :: x5 :: x6 :: x7 :: x8 :: x9 :: x10 :: x11 :: x12 :: x13 :: x14 :: x15 :: l) 15 x15 Q S := Ac.mk rfl
theorem tk16 : Tk P md (x0 :: x1 :: x2 :: x3 :: x4 :: x5 :: x6 :: x7 :: x8 :: x9 :: x10 :: x11 :: x12 :: x13 :: x14 :: x15 :: x16 :: l) 16 x16 Q S := Tk.mk rfl
theorem ac16 : Ac P md (x0 :: x1 :: x2 :: x3 :: x4 :: x5 :: x6 :: x7 :: x8 :: x9 :: x10 :: x11 :: x12 :: x13 :: x14 :: x15 :: x16 :: l) 16 x16 Q S := Ac.mk rfl
theorem tk17 : Tk P md (x0 :: x1 :: x2 :: x3 :: x4 :: x5 :: x6 :: x7 :: x8 :: x9 :: x10 :: x11 :: x12 :: x13 :: x14 :: x15 :: x16 :: x17 :: l) 17 x17 Q S := Tk.mk rfl
theorem tk18 : Tk P md (x0 :: x1 :: x2 :: x3 :: x4 :: x5 :: x6 :: x7 :: x8 :: x9 :: x10 :: x11 :: x12 :: x13 :: x14 :: x15 :: x16 :: x17 :: x18 :: l) 18 x18 Q S := Tk.mk rfl
theorem tk19 : Tk P md (x0 :: x1 :: x2 :: x3 :: x4 :: x5 :: x6 :: x7 :: x8 :: x9 :: x10 :: x11 :: x12 :: x13 :: x14 :: x15 :: x16 :: x17 :: x18 :: x19 :: l) 19 x19 Q S := Tk.mk rfl
theorem ac20 : Ac P md (x0 :: x1 :: x2 :: x3 :: x4 :: x5 :: x6 :: x7 :: x8 :: x9 :: x10 :: x11 :: x12 :: x13 :: x14 :: x15 :: x16 :: x17 :: x18 :: x19 :: x20 :: l) 20 x20 Q S := Ac.mk rfl
theorem ac21 : Ac P md (x0 :: x1 :: x2 :: x3 :: x4 :: x5 :: x6 :: x7 :: x8 :: x9 :: x10 :: x11 :: x12 :: x13 :: x14 :: x15 :: x16 :: x17 :: x18 :: x19 :: x20 :: x21 :: l) 21 x21 Q S := Ac.mk rfl
theorem ac22 : Ac P md (x0 :: x1 :: x2 :: x3 :: x4 :: x5 :: x6 :: x7 :: x8 :: x9 :: x10 :: x11 :: x12 :: x13 :: x14 :: x15 :: x16 :: x17 :: x18 :: x19 :: x20 :: x21 :: x22 :: l) 22 x22 Q S := Ac.mk rfl
end
theorem Tk.go {P : Program} {Q : Exit → Act → World → Prop} {md : Region.Mode} {S : World → Prop} {L : List Oper} {i : Nat} {o : Oper} (h : Tk P md L i o Q S) {fuel : Nat} {listed : Array Bool} {a a' : Act} {w : World} {v : Value} (H : wpAnyH P md L.toArray Q S fuel (listed.setIfInBounds i true) a' w)
  (h1 : (Region.noSelect L.toArray && Region.free md L.toArray listed i && (Region.ready md L.toArray listed).contains i) = true := by decide +kernel) (h2 : Region.wanted o (yielded L.toArray a.tmps) = true := by rfl) (h3 : ∀ c a w, Q (.panic c) (a.put o.dst v) w → Q (.panic c) a w := by exact fun _ _ _ => id)
  (h4 : ∀ w, S w → (execOp a.eval o).run P w = .ok (.value v) w := by intro w_ hSw; (try dsimp only at hSw); go_simp; all_goals (with_reducible rfl); done) (h5 : S w := by assumption) (h6 : a.put o.dst v = a' := by first | (simp only [Act.put, List.setIfInBounds_toArray, List.set_cons_zero, List.set_cons_succ]; done) | (simp only [Act.put, List.setIfInBounds_toArray, List.set_cons_zero, List.set_cons_succ]; rfl) | rfl) : wpAnyH P md L.toArray Q S (fuel + 1) listed a w := by
 subst h6; exact h v h1 h2 h3 h4 h5 H
theorem Un.go {P : Program} {Q : Exit → Act → World → Prop} {md : Region.Mode} {S : World → Prop} {L : List Oper} {i : Nat} {o : Oper} (h : Un P md L i o Q S) {fuel : Nat} {listed : Array Bool} {a a' : Act} {w : World} (H : wpAnyH P md L.toArray Q S fuel (listed.setIfInBounds i true) a' w)
  (h1 : (Region.noSelect L.toArray && Region.free md L.toArray listed i && (Region.ready md L.toArray listed).contains i) = true := by kernel_rfl) (h2 : Region.wanted o (yielded L.toArray a.tmps) = false := by rfl) (h3 : ∀ c a w, Q (.panic c) (a.put o.dst undef) w → Q (.panic c) a w := by exact fun _ _ _ => id) (h5 : S w := by assumption) (h6 : a.put o.dst undef = a' := by first | (simp only [Act.put, List.setIfInBounds_toArray, List.set_cons_zero, List.set_cons_succ]; done) | (simp only [Act.put, List.setIfInBounds_toArray, List.set_cons_zero, List.set_cons_succ]; rfl) | rfl) : wpAnyH P md L.toArray Q S (fuel + 1) listed a w := by
 subst h6; exact h h1 h2 h3 h5 H
end Go.Proofs.YtbpjnkeilhfajaaGreat
