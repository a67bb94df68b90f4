/- Steps through a region of open order, by an operation's place. -/
import Derived.Deep.RegionHeld
namespace Go.Proofs.YthckboogibhjaaaDoor
section
variable {P : Program} {Q : Exit → Act → World → Prop} {md : Region.Mode} {S : World → Prop}
def Tk (P : Program) (md : Region.Mode) (L : List Oper) (i : Nat) (o : Oper) (Q : Exit → Act → World → Prop) (S : World → Prop) : Prop :=
  ∀ {fuel : Nat} {listed : Array Bool} {a : Act} {w : World} (v : Value), (Region.noSelect L.toArray && Region.free md L.toArray listed i && (Region.ready md L.toArray listed).contains i) = true → Region.wanted o (yielded L.toArray a.tmps) = true → (∀ c a w, Q (.panic c) (a.put o.dst v) w → Q (.panic c) a w) → (∀ w, S w → (execOp a.eval o).run P w = .ok (.value v) w) → S w → wpAnyH P md L.toArray Q S fuel (listed.setIfInBounds i true) (a.put o.dst v) w → wpAnyH P md L.toArray Q S (fuel + 1) listed a w
def Un (P : Program) (md : Region.Mode) (L : List Oper) (i : Nat) (o : Oper) (Q : Exit → Act → World → Prop) (S : World → Prop) : Prop :=
  ∀ {fuel : Nat} {listed : Array Bool} {a : Act} {w : World}, (Region.noSelect L.toArray && Region.free md L.toArray listed i && (Region.ready md L.toArray listed).contains i) = true → Region.wanted o (yielded L.toArray a.tmps) = false → (∀ c a w, Q (.panic c) (a.put o.dst undef) w → Q (.panic c) a w) → S w → wpAnyH P md L.toArray Q S fuel (listed.setIfInBounds i true) (a.put o.dst undef) w → wpAnyH P md L.toArray Q S (fuel + 1) listed a w
def Ac (P : Program) (md : Region.Mode) (L : List Oper) (i : Nat) (o : Oper) (Q : Exit → Act → World → Prop) (S : World → Prop) : Prop :=
  ∀ {fuel : Nat} {listed : Array Bool} {a : Act} {w : World} {rs : List Nat}, (∀ K' : Act → World → Prop, Shut (∀ a w, S w → (S w → wpAnyH P md L.toArray Q S fuel (listed.setIfInBounds i true) a w) → K' a w) → if Region.wanted o (yielded L.toArray a.tmps) = true then Oper.wp P o a w K' Q else K' (a.put o.dst undef) w) → AllReadyH P md L.toArray Q S fuel listed a w rs → AllReadyH P md L.toArray Q S fuel listed a w (i :: rs)
theorem Tk.mk {L : List Oper} {i : Nat} {o : Oper} (h : L.toArray[i]? = some o) : Tk P md L i o Q S := fun v hb hw hQ hv hS H => by
  simp only [Bool.and_eq_true] at hb
  exact wpAnyH_take h hb.1.1 hb.1.2 hb.2 hQ (.inl ⟨hw, hv⟩) hS H
theorem Un.mk {L : List Oper} {i : Nat} {o : Oper} (h : L.toArray[i]? = some o) : Un P md L i o Q S := fun hb hw hQ hS H => by
  simp only [Bool.and_eq_true] at hb
  exact wpAnyH_take h hb.1.1 hb.1.2 hb.2 hQ (.inr ⟨hw, rfl⟩) hS H
theorem Ac.mk {L : List Oper} {i : Nat} {o : Oper} (h : L.toArray[i]? = some o) : Ac P md L i o Q S := fun H hs => AllReadyH.cons h H hs
variable {x0 x1 x2 x3 x4 x5 x6 x7 x8 x9 x10 x11 x12 x13 x14 x15 x16 x17 x18 x19 x20 x21 x22 x23 x24 x25 x26 x27 x28 x29 x30 x31 x32 x33 x34 x35 x36 x37 x38 x39 x40 x41 x42 x43 x44 x45 x46 x47 : Oper} {l : List Oper}
theorem tk0 : Tk P md (x0 :: l) 0 x0 Q S := Tk.mk rfl
theorem tk1 : Tk P md (x0 :: x1 :: l) 1 x1 Q S := Tk.mk rfl
theorem tk2 : Tk P md (x0 :: x1 :: x2 :: l) 2 x2 Q S := Tk.mk rfl
theorem un2 : Un P md (x0 :: x1 :: x2 :: l) 2 x2 Q S := Un.mk rfl
theorem tk3 : Tk P md (x0 :: x1 :: x2 :: x3 :: l) 3 x3 Q S := Tk.mk rfl
theorem un3 : Un P md (x0 :: x1 :: x2 :: x3 :: l) 3 x3 Q S := Un.mk rfl
theorem ac3 : Ac P md (x0 :: x1 :: x2 :: x3 :: l) 3 x3 Q S := Ac.mk rfl
theorem tk4 : Tk P md (x0 :: x1 :: x2 :: x3 :: x4 :: l) 4 x4 Q S := Tk.mk rfl
theorem un4 : Un P md (x0 :: x1 :: x2 :: x3 :: x4 :: l) 4 x4 Q S := Un.mk rfl
theorem ac4 : Ac P md (x0 :: x1 :: x2 :: x3 :: x4 :: l) 4 x4 Q S := Ac.mk rfl
theorem tk5 : Tk P md (x0 :: x1 :: x2 :: x3 :: x4 :: x5 :: l) 5 x5 Q S := Tk.mk rfl
theorem un5 : Un P md (x0 :: x1 :: x2 :: x3 :: x4 :: x5 :: l) 5 x5 Q S := Un.mk rfl
theorem ac5 : Ac P md (x0 :: x1 :: x2 :: x3 :: x4 :: x5 :: l) 5 x5 Q S := Ac.mk rfl
theorem tk6 : Tk P md (x0 :: x1 :: x2 :: x3 :: x4 :: x5 :: x6 :: l) 6 x6 Q S := Tk.mk rfl
theorem un6 : Un P md (x0 :: x1 :: x2 :: x3 :: x4 :: x5 :: x6 :: l) 6 x6 Q S := Un.mk rfl
theorem ac6 : Ac P md (x0 :: x1 :: x2 :: x3 :: x4 :: x5 :: x6 :: l) 6 x6 Q S := Ac.mk rfl
theorem tk7 : Tk P md (x0 :: x1 :: x2 :: x3 :: x4 :: x5 :: x6 :: x7 :: l) 7 x7 Q S := Tk.mk rfl
theorem ac7 : Ac P md (x0 :: x1 :: x2 :: x3 :: x4 :: x5 :: x6 :: x7 :: l) 7 x7 Q S := Ac.mk rfl
theorem tk8 : Tk P md (x0 :: x1 :: x2 :: x3 :: x4 :: x5 :: x6 :: x7 :: x8 :: l) 8 x8 Q S := Tk.mk rfl
theorem tk9 : Tk P md (x0 :: x1 :: x2 :: x3 :: x4 :: x5 :: x6 :: x7 :: x8 :: x9 :: l) 9 x9 Q S := Tk.mk rfl
theorem un9 : Un P md (x0 :: x1 :: x2 :: x3 :: x4 :: x5 :: x6 :: x7 :: x8 :: x9 :: l) 9 x9 Q S := Un.mk rfl
theorem tk10 : Tk P md (x0 :: x1 :: x2 :: x3 :: x4 :: x5 :: x6 :: x7 :: x8 :: x9 :: x10 :: l) 10 x10 Q S := Tk.mk rfl
theorem un10 : Un P md (x0 :: x1 :: x2 :: x3 :: x4 :: x5 :: x6 :: x7 :: x8 :: x9 :: x10 :: l) 10 x10 Q S := Un.mk rfl
theorem ac10 : Ac P md (x0 :: x1 :: x2 :: x3 :: x4 :: x5 :: x6 :: x7 :: x8 :: x9 :: x10 :: l) 10 x10 Q S := Ac.mk rfl
theorem tk11 : Tk P md (x0 :: x1 :: x2 :: x3 :: x4 :: x5 :: x6 :: x7 :: x8 :: x9 :: x10 :: x11 :: l) 11 x11 Q S := Tk.mk rfl
theorem un11 : Un P md (x0 :: x1 :: x2 :: x3 :: x4 :: x5 :: x6 :: x7 :: x8 :: x9 :: x10 :: x11 :: l) 11 x11 Q S := Un.mk rfl
theorem tk12 : Tk P md (x0 :: x1 :: x2 :: x3 :: x4 :: x5 :: x6 :: x7 :: x8 :: x9 :: x10 :: x11 :: x12 :: l) 12 x12 Q S := Tk.mk rfl
theorem tk13 : Tk P md (x0 :: x1 :: x2 :: x3 :: x4 :: x5 :: x6 :: x7 :: x8 :: x9 :: x10 :: x11 :: x12 :: x13 :: l) 13 x13 Q S := Tk.mk rfl
theorem tk14 : Tk P md (x0 :: x1 :: x2 :: x3 :: x4 :: x5 :: x6 :: x7 :: x8 :: x9 :: x10 :: x11 :: x12 :: x13 :: x14 :: l) 14 x14 Q S := Tk.mk rfl
theorem un14 : Un P md (x0 :: x1 :: x2 :: x3 :: x4 :: x5 :: x6 :: x7 :: x8 :: x9 :: x10 :: x11 :: x12 :: x13 :: x14 :: l) 14 x14 Q S := Un.mk rfl
theorem tk15 : Tk P md (x0 :: x1 :: x2 :: x3 :: x4 :: x5 :: x6 :: x7 :: x8 :: x9 :: x10 :: x11 :: x12 :: x13 :: x14 :: x15 :: l) 15 x15 Q S := Tk.mk rfl
theorem un15 : Un P md (x0 :: x1 :: x2 :: x3 :: x4 :: x5 :: x6 :: x7 :: x8 :: x9 :: x10 :: x11 :: x12 :: x13 :: x14 :: x15 :: l) 15 x15 Q S := Un.mk rfl
theorem tk16 : Tk P md (x0 :: x1 :: x2 :: x3 :: x4 :: x5 :: x6 :: x7 :: x8 :: x9 :: x10 :: x11 :: x12 :: x13 :: x14 :: x15 :: x16 :: l) 16 x16 Q S := Tk.mk rfl
theorem un16 : Un P md (x0 :: x1 :: x2 :: x3 :: x4 :: x5 :: x6 :: x7 :: x8 :: x9 :: x10 :: x11 :: x12 :: x13 :: x14 :: x15 :: x16 :: l) 16 x16 Q S := Un.mk rfl
theorem tk17 : Tk P md (x0 :: x1 :: x2 :: x3 :: x4 :: x5 :: x6 :: x7 :: x8 :: x9 :: x10 :: x11 :: x12 :: x13 :: x14 :: x15 :: x16 :: x17 :: l) 17 x17 Q S := Tk.mk rfl
theorem un17 : Un P md (x0 :: x1 :: x2 :: x3 :: x4 :: x5 :: x6 :: x7 :: x8 :: x9 :: x10 :: x11 :: x12 :: x13 :: x14 :: x15 :: x16 :: x17 :: l) 17 x17 Q S := Un.mk rfl
theorem tk18 : Tk P md (x0 :: x1 :: x2 :: x3 :: x4 :: x5 :: x6 :: x7 :: x8 :: x9 :: x10 :: x11 :: x12 :: x13 :: x14 :: x15 :: x16 :: x17 :: x18 :: l) 18 x18 Q S := Tk.mk rfl
theorem un18 : Un P md (x0 :: x1 :: x2 :: x3 :: x4 :: x5 :: x6 :: x7 :: x8 :: x9 :: x10 :: x11 :: x12 :: x13 :: x14 :: x15 :: x16 :: x17 :: x18 :: l) 18 x18 Q S := Un.mk rfl
theorem tk19 : Tk P md (x0 :: x1 :: x2 :: x3 :: x4 :: x5 :: x6 :: x7 :: x8 :: x9 :: x10 :: x11 :: x12 :: x13 :: x14 :: x15 :: x16 :: x17 :: x18 :: x19 :: l) 19 x19 Q S := Tk.mk rfl
theorem tk20 : Tk P md (x0 :: x1 :: x2 :: x3 :: x4 :: x5 :: x6 :: x7 :: x8 :: x9 :: x10 :: x11 :: x12 :: x13 :: x14 :: x15 :: x16 :: x17 :: x18 :: x19 :: x20 :: l) 20 x20 Q S := Tk.mk rfl
theorem tk21 : Tk P md (x0 :: x1 :: x2 :: x3 :: x4 :: x5 :: x6 :: x7 :: x8 :: x9 :: x10 :: x11 :: x12 :: x13 :: x14 :: x15 :: x16 :: x17 :: x18 :: x19 :: x20 :: x21 :: l) 21 x21 Q S := Tk.mk rfl
theorem un21 : Un P md (x0 :: x1 :: x2 :: x3 :: x4 :: x5 :: x6 :: x7 :: x8 :: x9 :: x10 :: x11 :: x12 :: x13 :: x14 :: x15 :: x16 :: x17 :: x18 :: x19 :: x20 :: x21 :: l) 21 x21 Q S := Un.mk rfl
theorem tk22 : Tk P md (x0 :: x1 :: x2 :: x3 :: x4 :: x5 :: x6 :: x7 :: x8 :: x9 :: x10 :: x11 :: x12 :: x13 :: x14 :: x15 :: x16 :: x17 :: x18 :: x19 :: x20 :: x21 :: x22 :: l) 22 x22 Q S := Tk.mk rfl
theorem un22 : Un P md (x0 :: x1 :: x2 :: x3 :: x4 :: x5 :: x6 :: x7 :: x8 :: x9 :: x10 :: x11 :: x12 :: x13 :: x14 :: x15 :: x16 :: x17 :: x18 :: x19 :: x20 :: x21 :: x22 :: l) 22 x22 Q S := Un.mk rfl
theorem tk23 : Tk P md (x0 :: x1 :: x2 :: x3 :: x4 :: x5 :: x6 :: x7 :: x8 :: x9 :: x10 :: x11 :: x12 :: x13 :: x14 :: x15 :: x16 :: x17 :: x18 :: x19 :: x20 :: x21 :: x22 :: x23 :: l) 23 x23 Q S := Tk.mk rfl
theorem un23 : Un P md (x0 :: x1 :: x2 :: x3 :: x4 :: x5 :: x6 :: x7 :: x8 :: x9 :: x10 :: x11 :: x12 :: x13 :: x14 :: x15 :: x16 :: x17 :: x18 :: x19 :: x20 :: x21 :: x22 :: x23 :: l) 23 x23 Q S := Un.mk rfl
theorem tk24 : Tk P md (x0 :: x1 :: x2 :: x3 :: x4 :: x5 :: x6 :: x7 :: x8 :: x9 :: x10 :: x11 :: x12 :: x13 :: x14 :: x15 :: x16 :: x17 :: x18 :: x19 :: x20 :: x21 :: x22 :: x23 :: x24 :: l) 24 x24 Q S := Tk.mk rfl
theorem un24 : Un P md (x0 :: x1 :: x2 :: x3 :: x4 :: x5 :: x6 :: x7 :: x8 :: x9 :: x10 :: x11 :: x12 :: x13 :: x14 :: x15 :: x16 :: x17 :: x18 :: x19 :: x20 :: x21 :: x22 :: x23 :: x24 :: l) 24 x24 Q S := Un.mk rfl
theorem tk25 : Tk P md (x0 :: x1 :: x2 :: x3 :: x4 :: x5 :: x6 :: x7 :: x8 :: x9 :: x10 :: x11 :: x12 :: x13 :: x14 :: x15 :: x16 :: x17 :: x18 :: x19 :: x20 :: x21 :: x22 :: x23 :: x24 :: x25 :: l) 25 x25 Q S := Tk.mk rfl
theorem un25 : Un P md (x0 :: x1 :: x2 :: x3 :: x4 :: x5 :: x6 :: x7 :: x8 :: x9 :: x10 :: x11 :: x12 :: x13 :: x14 :: x15 :: x16 :: x17 :: x18 :: x19 :: x20 :: x21 :: x22 :: x23 :: x24 :: x25 :: l) 25 x25 Q S := Un.mk rfl
theorem tk26 : Tk P md (x0 :: x1 :: x2 :: x3 :: x4 :: x5 :: x6 :: x7 :: x8 :: x9 :: x10 :: x11 :: x12 :: x13 :: x14 :: x15 :: x16 :: x17 :: x18 :: x19 :: x20 :: x21 :: x22 :: x23 :: x24 :: x25 :: x26 :: l) 26 x26 Q S := Tk.mk rfl
theorem un26 : Un P md (x0 :: x1 :: x2 :: x3 :: x4 :: x5 :: x6 :: x7 :: x8 :: x9 :: x10 :: x11 :: x12 :: x13 :: x14 :: x15 :: x16 :: x17 :: x18 :: x19 :: x20 :: x21 :: x22 :: x23 :: x24 :: x25 :: x26 :: l) 26 x26 Q S := Un.mk rfl
theorem ac27 : Ac P md (x0 :: x1 :: x2 :: x3 :: x4 :: x5 :: x6 :: x7 :: x8 :: x9 :: x10 :: x11 :: x12 :: x13 :: x14 :: x15 :: x16 :: x17 :: x18 :: x19 :: x20 :: x21 :: x22 :: x23 :: x24 :: x25 :: x26 :: x27 :: l) 27 x27 Q S := Ac.mk rfl
theorem tk28 : Tk P md (x0 :: x1 :: x2 :: x3 :: x4 :: x5 :: x6 :: x7 :: x8 :: x9 :: x10 :: x11 :: x12 :: x13 :: x14 :: x15 :: x16 :: x17 :: x18 :: x19 :: x20 :: x21 :: x22 :: x23 :: x24 :: x25 :: x26 :: x27 :: x28 :: l) 28 x28 Q S := Tk.mk rfl
theorem tk29 : Tk P md (x0 :: x1 :: x2 :: x3 :: x4 :: x5 :: x6 :: x7 :: x8 :: x9 :: x10 :: x11 :: x12 :: x13 :: x14 :: x15 :: x16 :: x17 :: x18 :: x19 :: x20 :: x21 :: x22 :: x23 :: x24 :: x25 :: x26 :: x27 :: x28 :: x29 :: l) 29 x29 Q S := Tk.mk rfl
theorem tk30 : Tk P md (x0 :: x1 :: x2 :: x3 :: x4 :: x5 :: x6 :: x7 :: x8 :: x9 :: x10 :: x11 :: x12 :: x13 :: x14 :: x15 :: x16 :: x17 :: x18 :: x19 :: x20 :: x21 :: x22 :: x23 :: x24 :: x25 :: x26 :: x27 :: x28 :: x29 :: x30 :: l) 30 x30 Q S := Tk.mk rfl
theorem un30 : Un P md (x0 :: x1 :: x2 :: x3 :: x4 :: x5 :: x6 :: x7 :: x8 :: x9 :: x10 :: x11 :: x12 :: x13 :: x14 :: x15 :: x16 :: x17 :: x18 :: x19 :: x20 :: x21 :: x22 :: x23 :: x24 :: x25 :: x26 :: x27 :: x28 :: x29 :: x30 :: l) 30 x30 Q S := Un.mk rfl
theorem tk31 : Tk P md (x0 :: x1 :: x2 :: x3 :: x4 :: x5 :: x6 :: x7 :: x8 :: x9 :: x10 :: x11 :: x12 :: x13 :: x14 :: x15 :: x16 :: x17 :: x18 :: x19 :: x20 :: x21 :: x22 :: x23 :: x24 :: x25 :: x26 :: x27 :: x28 :: x29 :: x30 :: x31 :: l) 31 x31 Q S := Tk.mk rfl
theorem un31 : Un P md (x0 :: x1 :: x2 :: x3 :: x4 :: x5 :: x6 :: x7 :: x8 :: x9 :: x10 :: x11 :: x12 :: x13 :: x14 :: x15 :: x16 :: x17 :: x18 :: x19 :: x20 :: x21 :: x22 :: x23 :: x24 :: x25 :: x26 :: x27 :: x28 :: x29 :: x30 :: x31 :: l) 31 x31 Q S := Un.mk rfl
theorem tk32 : Tk P md (x0 :: x1 :: x2 :: x3 :: x4 :: x5 :: x6 :: x7 :: x8 :: x9 :: x10 :: x11 :: x12 :: x13 :: x14 :: x15 :: x16 :: x17 :: x18 :: x19 :: x20 :: x21 :: x22 :: x23 :: x24 :: x25 :: x26 :: x27 :: x28 :: x29 :: x30 :: x31 :: x32 :: l) 32 x32 Q S := Tk.mk rfl
theorem un32 : Un P md (x0 :: x1 :: x2 :: x3 :: x4 :: x5 :: x6 :: x7 :: x8 :: x9 :: x10 :: x11 :: x12 :: x13 :: x14 :: x15 :: x16 :: x17 :: x18 :: x19 :: x20 :: x21 :: x22 :: x23 :: x24 :: x25 :: x26 :: x27 :: x28 :: x29 :: x30 :: x31 :: x32 :: l) 32 x32 Q S := Un.mk rfl
theorem tk33 : Tk P md (x0 :: x1 :: x2 :: x3 :: x4 :: x5 :: x6 :: x7 :: x8 :: x9 :: x10 :: x11 :: x12 :: x13 :: x14 :: x15 :: x16 :: x17 :: x18 :: x19 :: x20 :: x21 :: x22 :: x23 :: x24 :: x25 :: x26 :: x27 :: x28 :: x29 :: x30 :: x31 :: x32 :: x33 :: l) 33 x33 Q S := Tk.mk rfl
theorem un33 : Un P md (x0 :: x1 :: x2 :: x3 :: x4 :: x5 :: x6 :: x7 :: x8 :: x9 :: x10 :: x11 :: x12 :: x13 :: x14 :: x15 :: x16 :: x17 :: x18 :: x19 :: x20 :: x21 :: x22 :: x23 :: x24 :: x25 :: x26 :: x27 :: x28 :: x29 :: x30 :: x31 :: x32 :: x33 :: l) 33 x33 Q S := Un.mk rfl
theorem tk34 : Tk P md (x0 :: x1 :: x2 :: x3 :: x4 :: x5 :: x6 :: x7 :: x8 :: x9 :: x10 :: x11 :: x12 :: x13 :: x14 :: x15 :: x16 :: x17 :: x18 :: x19 :: x20 :: x21 :: x22 :: x23 :: x24 :: x25 :: x26 :: x27 :: x28 :: x29 :: x30 :: x31 :: x32 :: x33 :: x34 :: l) 34 x34 Q S := Tk.mk rfl
theorem un34 : Un P md (x0 :: x1 :: x2 :: x3 :: x4 :: x5 :: x6 :: x7 :: x8 :: x9 :: x10 :: x11 :: x12 :: x13 :: x14 :: x15 :: x16 :: x17 :: x18 :: x19 :: x20 :: x21 :: x22 :: x23 :: x24 :: x25 :: x26 :: x27 :: x28 :: x29 :: x30 :: x31 :: x32 :: x33 :: x34 :: l) 34 x34 Q S := Un.mk rfl
theorem tk35 : Tk P md (x0 :: x1 :: x2 :: x3 :: x4 :: x5 :: x6 :: x7 :: x8 :: x9 :: x10 :: x11 :: x12 :: x13 :: x14 :: x15 :: x16 :: x17 :: x18 :: x19 :: x20 :: x21 :: x22 :: x23 :: x24 :: x25 :: x26 :: x27 :: x28 :: x29 :: x30 :: x31 :: x32 :: x33 :: x34 :: x35 :: l) 35 x35 Q S := Tk.mk rfl
theorem un35 : Un P md (x0 :: x1 :: x2 :: x3 :: x4 :: x5 :: x6 :: x7 :: x8 :: x9 :: x10 :: x11 :: x12 :: x13 :: x14 :: x15 :: x16 :: x17 :: x18 :: x19 :: x20 :: x21 :: x22 :: x23 :: x24 :: x25 :: x26 :: x27 :: x28 :: x29 :: x30 :: x31 :: x32 :: x33 :: x34 :: x35 :: l) 35 x35 Q S := Un.mk rfl
theorem tk36 : Tk P md (x0 :: x1 :: x2 :: x3 :: x4 :: x5 :: x6 :: x7 :: x8 :: x9 :: x10 :: x11 :: x12 :: x13 :: x14 :: x15 :: x16 :: x17 :: x18 :: x19 :: x20 :: x21 :: x22 :: x23 :: x24 :: x25 :: x26 :: x27 :: x28 :: x29 :: x30 :: x31 :: x32 :: x33 :: x34 :: x35 :: x36 :: l) 36 x36 Q S := Tk.mk rfl
theorem un36 : Un P md (x0 :: x1 :: x2 :: x3 :: x4 :: x5 :: x6 :: x7 :: x8 :: x9 :: x10 :: x11 :: x12 :: x13 :: x14 :: x15 :: x16 :: x17 :: x18 :: x19 :: x20 :: x21 :: x22 :: x23 :: x24 :: x25 :: x26 :: x27 :: x28 :: x29 :: x30 :: x31 :: x32 :: x33 :: x34 :: x35 :: x36 :: l) 36 x36 Q S := Un.mk rfl
theorem tk37 : Tk P md (x0 :: x1 :: x2 :: x3 :: x4 :: x5 :: x6 :: x7 :: x8 :: x9 :: x10 :: x11 :: x12 :: x13 :: x14 :: x15 :: x16 :: x17 :: x18 :: x19 :: x20 :: x21 :: x22 :: x23 :: x24 :: x25 :: x26 :: x27 :: x28 :: x29 :: x30 :: x31 :: x32 :: x33 :: x34 :: x35 :: x36 :: x37 :: l) 37 x37 Q S := Tk.mk rfl
theorem un37 : Un P md (x0 :: x1 :: x2 :: x3 :: x4 :: x5 :: x6 :: x7 :: x8 :: x9 :: x10 :: x11 :: x12 :: x13 :: x14 :: x15 :: x16 :: x17 :: x18 :: x19 :: x20 :: x21 :: x22 :: x23 :: x24 :: x25 :: x26 :: x27 :: x28 :: x29 :: x30 :: x31 :: x32 :: x33 :: x34 :: x35 :: x36 :: x37 :: l) 37 x37 Q S := Un.mk rfl
theorem tk38 : Tk P md (x0 :: x1 :: x2 :: x3 :: x4 :: x5 :: x6 :: x7 :: x8 :: x9 :: x10 :: x11 :: x12 :: x13 :: x14 :: x15 :: x16 :: x17 :: x18 :: x19 :: x20 :: x21 :: x22 :: x23 :: x24 :: x25 :: x26 :: x27 :: x28 :: x29 :: x30 :: x31 :: x32 :: x33 :: x34 :: x35 :: x36 :: x37 :: x38 :: l) 38 x38 Q S := Tk.mk rfl
theorem un38 : Un P md (x0 :: x1 :: x2 :: x3 :: x4 :: x5 :: x6 :: x7 :: x8 :: x9 :: x10 :: x11 :: x12 :: x13 :: x14 :: x15 :: x16 :: x17 :: x18 :: x19 :: x20 :: x21 :: x22 :: x23 :: x24 :: x25 :: x26 :: x27 :: x28 :: x29 :: x30 :: x31 :: x32 :: x33 :: x34 :: x35 :: x36 :: x37 :: x38 :: l) 38 x38 Q S := Un.mk rfl
theorem tk39 : Tk P md (x0 :: x1 :: x2 :: x3 :: x4 :: x5 :: x6 :: x7 :: x8 :: x9 :: x10 :: x11 :: x12 :: x13 :: x14 :: x15 :: x16 :: x17 :: x18 :: x19 :: x20 :: x21 :: x22 :: x23 :: x24 :: x25 :: x26 :: x27 :: x28 :: x29 :: x30 :: x31 :: x32 :: x33 :: x34 :: x35 :: x36 :: x37 :: x38 :: x39 :: l) 39 x39 Q S := Tk.mk rfl
theorem un39 : Un P md (x0 :: x1 :: x2 :: x3 :: x4 :: x5 :: x6 :: x7 :: x8 :: x9 :: x10 :: x11 :: x12 :: x13 :: x14 :: x15 :: x16 :: x17 :: x18 :: x19 :: x20 :: x21 :: x22 :: x23 :: x24 :: x25 :: x26 :: x27 :: x28 :: x29 :: x30 :: x31 :: x32 :: x33 :: x34 :: x35 :: x36 :: x37 :: x38 :: x39 :: l) 39 x39 Q S := Un.mk rfl
theorem tk40 : Tk P md (x0 :: x1 :: x2 :: x3 :: x4 :: x5 :: x6 :: x7 :: x8 :: x9 :: x10 :: x11 :: x12 :: x13 :: x14 :: x15 :: x16 :: x17 :: x18 :: x19 :: x20 :: x21 :: x22 :: x23 :: x24 :: x25 :: x26 :: x27 :: x28 :: x29 :: x30 :: x31 :: x32 :: x33 :: x34 :: x35 :: x36 :: x37 :: x38 :: x39 :: x40 :: l) 40 x40 Q S := Tk.mk rfl
theorem un40 : Un P md (x0 :: x1 :: x2 :: x3 :: x4 :: x5 :: x6 :: x7 :: x8 :: x9 :: x10 :: x11 :: x12 :: x13 :: x14 :: x15 :: x16 :: x17 :: x18 :: x19 :: x20 :: x21 :: x22 :: x23 :: x24 :: x25 :: x26 :: x27 :: x28 :: x29 :: x30 :: x31 :: x32 :: x33 :: x34 :: x35 :: x36 :: x37 :: x38 :: x39 :: x40 :: l) 40 x40 Q S := Un.mk rfl
theorem tk41 : Tk P md (x0 :: x1 :: x2 :: x3 :: x4 :: x5 :: x6 :: x7 :: x8 :: x9 :: x10 :: x11 :: x12 :: x13 :: x14 :: x15 :: x16 :: x17 :: x18 :: x19 :: x20 :: x21 :: x22 :: x23 :: x24 :: x25 :: x26 :: x27 :: x28 :: x29 :: x30 :: x31 :: x32 :: x33 :: x34 :: x35 :: x36 :: x37 :: x38 :: x39 :: x40 :: x41 :: l) 41 x41 Q S := Tk.mk rfl
theorem un41 : Un P md (x0 :: x1 :: x2 :: x3 :: x4 :: x5 :: x6 :: x7 :: x8 :: x9 :: x10 :: x11 :: x12 :: x13 :: x14 :: x15 :: x16 :: x17 :: x18 :: x19 :: x20 :: x21 :: x22 :: x23 :: x24 :: x25 :: x26 :: x27 :: x28 :: x29 :: x30 :: x31 :: x32 :: x33 :: x34 :: x35 :: x36 :: x37 :: x38 :: x39 :: x40 :: x41 :: l) 41 x41 Q S := Un.mk rfl
theorem tk42 : Tk P md (x0 :: x1 :: x2 :: x3 :: x4 :: x5 :: x6 :: x7 :: x8 :: x9 :: x10 :: x11 :: x12 :: x13 :: x14 :: x15 :: x16 :: x17 :: x18 :: x19 :: x20 :: x21 :: x22 :: x23 :: x24 :: x25 :: x26 :: x27 :: x28 :: x29 :: x30 :: x31 :: x32 :: x33 :: x34 :: x35 :: x36 :: x37 :: x38 :: x39 :: x40 :: x41 :: x42 :: l) 42 x42 Q S := Tk.mk rfl
theorem un42 : Un P md (x0 :: x1 :: x2 :: x3 :: x4 :: x5 :: x6 :: x7 :: x8 :: x9 :: x10 :: x11 :: x12 :: x13 :: x14 :: x15 :: x16 :: x17 :: x18 :: x19 :: x20 :: x21 :: x22 :: x23 :: x24 :: x25 :: x26 :: x27 :: x28 :: x29 :: x30 :: x31 :: x32 :: x33 :: x34 :: x35 :: x36 :: x37 :: x38 :: x39 :: x40 :: x41 :: x42 :: l) 42 x42 Q S := Un.mk rfl
theorem tk43 : Tk P md (x0 :: x1 :: x2 :: x3 :: x4 :: x5 :: x6 :: x7 :: x8 :: x9 :: x10 :: x11 :: x12 :: x13 :: x14 :: x15 :: x16 :: x17 :: x18 :: x19 :: x20 :: x21 :: x22 :: x23 :: x24 :: x25 :: x26 :: x27 :: x28 :: x29 :: x30 :: x31 :: x32 :: x33 :: x34 :: x35 :: x36 :: x37 :: x38 :: x39 :: x40 :: x41 :: x42 :: x43 :: l) 43 x43 Q S := Tk.mk rfl
theorem un43 : Un P md (x0 :: x1 :: x2 :: x3 :: x4 :: x5 :: x6 :: x7 :: x8 :: x9 :: x10 :: x11 :: x12 :: x13 :: x14 :: x15 :: x16 :: x17 :: x18 :: x19 :: x20 :: x21 :: x22 :: x23 :: x24 :: x25 :: x26 :: x27 :: x28 :: x29 :: x30 :: x31 :: x32 :: x33 :: x34 :: x35 :: x36 :: x37 :: x38 :: x39 :: x40 :: x41 :: x42 :: x43 :: l) 43 x43 Q S := Un.mk rfl
theorem tk44 : Tk P md (x0 :: x1 :: x2 :: x3 :: x4 :: x5 :: x6 :: x7 :: x8 :: x9 :: x10 :: x11 :: x12 :: x13 :: x14 :: x15 :: x16 :: x17 :: x18 :: x19 :: x20 :: x21 :: x22 :: x23 :: x24 :: x25 :: x26 :: x27 :: x28 :: x29 :: x30 :: x31 :: x32 :: x33 :: x34 :: x35 :: x36 :: x37 :: x38 :: x39 :: x40 :: x41 :: x42 :: x43 :: x44 :: l) 44 x44 Q S := Tk.mk rfl
theorem tk45 : Tk P md (x0 :: x1 :: x2 :: x3 :: x4 :: x5 :: x6 :: x7 :: x8 :: x9 :: x10 :: x11 :: x12 :: x13 :: x14 :: x15 :: x16 :: x17 :: x18 :: x19 :: x20 :: x21 :: x22 :: x23 :: x24 :: x25 :: x26 :: x27 :: x28 :: x29 :: x30 :: x31 :: x32 :: x33 :: x34 :: x35 :: x36 :: x37 :: x38 :: x39 :: x40 :: x41 :: x42 :: x43 :: x44 :: x45 :: l) 45 x45 Q S := Tk.mk rfl
end
end Go.Proofs.YthckboogibhjaaaDoor
