import Derived.Test.YtbpjnkeilhfajaaGreatLnS1
import Derived.Test.YtbpjnkeilhfajaaGreatTl
import Derived.Test.YtbpjnkeilhfajaaGreatRwX12
import Derived.Test.YtbpjnkeilhfajaaGreatWnB
import Derived.Test.YtbpjnkeilhfajaaGreatLnU
section
/- Plain: what Solve answers is checked, and fits. -/
namespace Go.Proofs.YtbpjnkeilhfajaaGreat.Ln
open Go.RowKit Go.Proofs.YtbpjnkeilhfajaaGreat.Num Go.Proofs.YtbpjnkeilhfajaaGreat.Given Go.Proofs.YtbpjnkeilhfajaaGreat.Lin Go.Proofs.YtbpjnkeilhfajaaGreatW.PrintWords
set_option linter.unusedVariables false
theorem solve_cases (z : List RowZ) (v f : Int) : (solve z v f = (0, [], []) ∧ True) ∨ (mayQ z v = true ∧ ∃ a p w, (made z v.toNat).bind (loop v.toNat f.toNat) = some (a, p, w) ∧ solve z v f = (a, p, w) ∧ ¬ (a = 1 ∧ checkPoint z p = false ∨ a = 2 ∧ checkFarkas z w = false)) := by
 unfold solve
 by_cases hm : mayQ z v = true
 ·rw [if_pos hm]
  cases ho : (made z v.toNat).bind (loop v.toNat f.toNat) with
  | none => exact .inl ⟨rfl, trivial⟩
  | some s =>
   obtain ⟨a, p, w⟩ := s
   dsimp only
   by_cases hc : a = 1 ∧ checkPoint z p = false ∨ a = 2 ∧ checkFarkas z w = false
   ·rw [if_pos hc]; exact .inl ⟨rfl, trivial⟩
   ·rw [if_neg hc]; exact .inr ⟨hm, a, p, w, rfl, rfl, hc⟩
 ·rw [if_neg hm]; exact .inl ⟨rfl, trivial⟩
theorem solve_may {z : List RowZ} {v f : Int} (h : mayQ z v = false) : solve z v f = (0, [], []) := by
 unfold solve; rw [if_neg (by rw [h]; decide)]
theorem mayQ_true {z : List RowZ} {v : Int} (h : mayQ z v = true) : 0 ≤ v ∧ v ≤ 64 ∧ z.length ≤ 256 ∧ ∀ r, r ∈ z → (r.1.length : Int) = v := by
 unfold mayQ at h
 simp only [Bool.and_eq_true, decide_eq_true_eq, List.all_eq_true] at h
 exact ⟨h.1.1.1, h.1.1.2, h.1.2, h.2⟩
theorem solve_fit {l : List S40} (hin : ∀ r, r ∈ l → RowIn r) (v f : Int) : (∀ x, x ∈ (solve (l.map toZ) v f).2.1 → Fit x) ∧ (∀ x, x ∈ (solve (l.map toZ) v f).2.2 → In64 x) := by
 rcases solve_cases (l.map toZ) v f with ⟨e, -⟩ | ⟨hm, a, p, w, ho, e, -⟩
 ·rw [e]; exact ⟨(fun x hx => by cases hx), (fun x hx => by cases hx)⟩
 ·rw [e]
  obtain ⟨h0, h64, h256, hlen⟩ := mayQ_true hm
  rw [List.length_map] at h256
  obtain ⟨t, ht, h2⟩ := bind_some' ho
  exact loop_fit _ (made_wf hin (show v.toNat ≤ 64 by omega) h256 (fun r hr => by
   have := hlen (toZ r) (List.mem_map_of_mem hr)
   unfold toZ at this
   dsimp only at this
   omega) ht) h2
end Go.Proofs.YtbpjnkeilhfajaaGreat.Ln
end

section
/- whole.Solve's search, and both: the state, the contracts. -/
namespace Go.Proofs
theorem Zp4w {p q : Prop} (hq : q) (h : p = q := by first | (simp only [Act.put, List.setIfInBounds_toArray, List.set_cons_zero, List.set_cons_succ]; done) | (simp only [Act.put, List.setIfInBounds_toArray, List.set_cons_zero, List.set_cons_succ]; rfl) | rfl) : p := Eq.mpr h hq
theorem Z4w0 {p : Prop} (h : p := by repeat (first | exact Below.refl _ _ | with_reducible assumption | refine Below.alloc ?_ (by first | exact Nat.le_refl _ | (simp; done) | (simp; omega) | omega) _ | refine Below.setCell ?_ (by first | exact Nat.le_refl _ | (simp; done) | (simp; omega) | omega) _ | refine Below.drew ?_ | refine bdrewN ?_ _)) : p := h
theorem Z4w1 {p : Prop} (h : p := by kernel_rfl) : p := h
theorem Z4w2 {p : Prop} (h : p := by (intro w_ hSw; simp only [Cells] at hSw; go_simp; all_goals (with_reducible rfl); done)) : p := h
theorem Z4w3 {p : Prop} (h : p := by exact hHeld.keep hb2) : p := h
theorem Z4w4 {p : Prop} (h : p := by have := HN.out; unfold maxLen; omega) : p := h
theorem Z4w5 {p : Prop} (h : p := by have := HN.out; omega) : p := h
theorem Z4w6 {p : Prop} (h : p := by rw [List.length_append, List.length_singleton]) : p := h
theorem Z4w7 {p : Prop} (h : p := by rw [List.length_append, List.length_singleton]; exact HN.out.2.2.2.1) : p := h
theorem Z4w8 {p : Prop} (h : p := by exact ⟨cell_fp hFp hHeld.1 (by have := HAP.out; unfold Apart at this; dsimp only; omega), cell_fp hFp hHeld.2.1 (by have := HLT.out; dsimp only; omega), cell_fp hFp hHeld.2.2.1 (by have := HLT.out; dsimp only; omega), trivial⟩) : p := h
theorem Z4w9 {p : Prop} (h : p := by have := HLT.out; dsimp only; omega) : p := h
end Go.Proofs
namespace Go.Proofs.YtbpjnkeilhfajaaGreat.Ln
open Go.RowKit Go.Proofs.YtbpjnkeilhfajaaGreat.Num Go.Proofs.YtbpjnkeilhfajaaGreat.Given Go.Proofs.YtbpjnkeilhfajaaGreat.Lin Go.Proofs.YtbpjnkeilhfajaaGreatW.PrintWords
set_option linter.unusedVariables false
set_option linter.unusedSimpArgs false
theorem findP_is {α : Type} (p : α → Bool) : ∀ (l : List α) (j : Int), findP p l j = match l.findIdx? p with | none => -1 | some i => j + (i : Int)
 | [], j => rfl
 | x :: l, j => by
  rw [findP, List.findIdx?_cons]
  cases hx : p x with
  | true => rw [if_pos rfl]; simp
  | false =>
   rw [if_neg (by decide), findP_is p l (j + 1)]
   simp only [Bool.false_eq_true, if_false]
   cases l.findIdx? p with
   | none => rfl
   | some i =>
    show j + 1 + (i : Int) = j + ((i + 1 : Nat) : Int)
    omega
structure WBx (w : World) (fb vb pb bb sb : Nat) (v fuel : Int) (pv : Value) : Prop where
 kf : w.heap[fb]? = some (.cells #[.int .i64 fuel] 3 (0, 0))
 kv : w.heap[vb]? = some (.cells #[.int .i64 v] 3 (0, 0))
 kp : w.heap[pb]? = some (.cells #[pv] 23 (0, 0))
 kb : w.heap[bb]? = some (.cells #[.func (.func 74) #[] #[.pointer (some ⟨sb, 0, none⟩)]] 95 (0, 0))
 ks : w.heap[sb]? = some (.cells #[.func (.func 76) #[] #[.pointer (some ⟨fb, 0, none⟩), .pointer (some ⟨vb, 0, none⟩), .pointer (some ⟨pb, 0, none⟩), .pointer (some ⟨bb, 0, none⟩)]] 94 (0, 0))
def Apart (fb vb pb bb sb : Nat) : Prop := fb ≠ vb ∧ fb ≠ pb ∧ fb ≠ bb ∧ fb ≠ sb ∧ pb ≠ vb ∧ pb ≠ bb ∧ pb ≠ sb
theorem WBx.below {w w1 : World} {fb vb pb bb sb : Nat} {v fuel : Int} {pv : Value} (h : WBx w fb vb pb bb sb v fuel pv) (hb : Below w.heap.size w w1) : WBx w1 fb vb pb bb sb v fuel pv :=
 ⟨blk_below h.kf hb, blk_below h.kv hb, blk_below h.kp hb, blk_below h.kb hb, blk_below h.ks hb⟩
structure RowsK (fb pb : Nat) (w : World) (A : Option Addr) (l : List S40) (raws : List Value) : Prop where
 raw : ∀ W', Fp (fun k => k = fb ∨ k = pb) w W' → Raw W' A l.length 2 raws
 enc : ∀ W', Fp (fun k => k = fb ∨ k = pb) w W' → Enc k40 W' l raws
 max : l.length ≤ 1000000
def IntK (fb pb : Nat) (w : World) (A : Option Addr) (l : List Int) : Prop := ∀ W', Fp (fun k => k = fb ∨ k = pb) w W' → (Kd.int .i64).C W' A l.length l
theorem raw_C {α : Type} {d : Kd α} {w : World} {A : Option Addr} {n : Nat} {raws : List Value} {xs : List α} (hr : Raw w A n d.sz raws) (he : Enc d w xs raws) (hn : xs.length = n) (hm : n ≤ 1000000) : d.C w A n xs := by
 refine ⟨hn, by omega, fun h0 => ?_⟩
 cases A with
 | none => have := hr.nil rfl; omega
 | some ad =>
  refine ⟨ad, rfl, fun j p hj => ?_⟩
  obtain ⟨cs, h1, h2, h3⟩ := he.2 j p hj
  exact ⟨cs, h1, h2, fun i u hu => hr.cell ad rfl _ _ (h3 i u hu)⟩
theorem RowsK.C {fb pb : Nat} {w : World} {A : Option Addr} {l : List S40} {raws : List Value} (h : RowsK fb pb w A l raws) : Kd.C k40 w A l.length l :=
 raw_C (d := k40) (h.raw w (Fp.refl _ _)) (h.enc w (Fp.refl _ _)) rfl h.max
theorem RowsK.step {fb pb : Nat} {w w1 : World} {A : Option Addr} {l : List S40} {raws : List Value} (h : RowsK fb pb w A l raws) (hf : Fp (fun k => k = fb ∨ k = pb) w w1) : RowsK fb pb w1 A l raws :=
 ⟨fun W' h' => h.raw W' (hf.tr h'), fun W' h' => h.enc W' (hf.tr h'), h.max⟩
theorem IntK.step {fb pb : Nat} {w w1 : World} {A : Option Addr} {l : List Int} (h : IntK fb pb w A l) (hf : Fp (fun k => k = fb ∨ k = pb) w w1) : IntK fb pb w1 A l := fun W' h' => h W' (hf.tr h')
theorem own_fp {S : Nat → Prop} {w w1 : World} {base : Nat} {e : TypeId} {size n : Nat} {v : Value} {xs : List Value} (h : w.ownsRow base e size v n xs) (hf : Fp S w w1) (hS : ∀ k, v.ownBlock = some k → ¬ S k) : w1.ownsRow base e size v n xs := by
 obtain ⟨hl, hv⟩ := h
 refine ⟨hl, ?_⟩
 rcases hv with h | ⟨g', cap, cur, rfl, h1, h2, h3⟩
 ·exact .inl h
 ·exact .inr ⟨g', cap, cur, rfl, h1, (hf.block g' (blk_lt h2) (hS g' rfl)).trans h2, h3⟩
theorem own_raw {w : World} {base : Nat} {e : TypeId} {size n c : Nat} {A : Option Addr} {xs : List Value} (h : w.ownsRow base e size (.slice A n c) n xs) (h1 : ∀ u, u ∈ xs → u.oneCell' = true) : Raw w A n size xs := by
 have hl := h.1
 rcases h.2 with ⟨e, h0⟩ | ⟨g, cap, cur, e, h2, h3, h4, h5, h6, h7⟩
 ·injection e with e1 e2 e3
  subst e1
  exact ⟨hl, (fun _ => h0), (fun ad e => by cases e), h1⟩
 ·injection e with e1 e2 e3
  subst e1
  refine ⟨hl, (fun e => by cases e), fun ad e j u hj => ?_, h1⟩
  obtain rfl := Option.some.inj e
  rw [Addr.add_lit, Nat.zero_add, blk_cell h3]
  rw [← h7, List.getElem?_take] at hj
  split at hj
  ·simpa using hj
  ·cases hj
theorem RowsK.more {fb pb : Nat} {w : World} {base : Nat} {l : List S40} {raws : List Value} {A A1 A3 : Option Addr} {c1 c3 : Nat} {r : S40} (h : RowsK fb pb w A l raws) (h1 : IntK fb pb w A1 r.f0) (hc1 : r.f0.length ≤ c1) (hl : l.length < 1000000)
  (ho : w.ownsRow base 40 2 (.slice A3 (l.length + 1) c3) (l.length + 1) (raws ++ [.slice A1 r.f0.length c1, .int .i64 r.f1])) (hb1 : fb < base) (hb2 : pb < base) : RowsK fb pb w A3 (l ++ [r]) (raws ++ [.slice A1 r.f0.length c1, .int .i64 r.f1]) := by
 have en : (l ++ [r]).length = l.length + 1 := by rw [List.length_append, List.length_singleton]
 refine ⟨fun W' hf => ?_, fun W' hf => (h.enc W' hf).app (Enc.one rfl (k40_mk W' r (A0 := A1) (c0 := c1) hc1 (h1 W' hf))), by rw [en]; omega⟩
 rw [en]
 refine own_raw (own_fp ho hf (fun k hk => ?_)) fun u hu => ?_
 ·have := (ho.lt k hk).1
  omega
 ·rcases List.mem_append.1 hu with hu | hu
  ·exact (h.raw w (Fp.refl _ _)).one u hu
  ·simp only [List.mem_cons, List.not_mem_nil, or_false] at hu
   rcases hu with rfl | rfl <;> rfl
def SrEnd (fb vb pb bb sb : Nat) (v : Int) (B : Nat) (w : World) (r : Int × Nat × List Int) (e : Ending) (w' : World) : Prop :=
 e = .returned (.int .i64 r.1) ∧ Fp (fun k => k = fb ∨ k = pb) w w' ∧ ∃ fu pv, WBx w' fb vb pb bb sb v fu pv ∧ In64 fu ∧ fu.toNat = r.2.1 ∧ RowI w' B pv r.2.2 ∧ (r.1 ≠ 1 → pv = .slice none 0 0)
def Search (fb vb pb bb sb : Nat) (v : Int) (B d : Nat) : Prop := ∀ (f : Nat) (fuel : Int) (l : List S40) (raws : List Value) (A : Option Addr) (c : Nat) (w : World), f ≤ d → fuel.toNat = f → In64 fuel → l.length + d ≤ 100000 → RowsK fb pb w A l raws → l.length ≤ c → (∀ r, r ∈ l → RowIn r) → WBx w fb vb pb bb sb v fuel (.slice none 0 0) → B ≤ w.heap.size →
 Calls Tryz.prog 76 #[.slice A l.length c, .pointer (some ⟨fb, 0, none⟩), .pointer (some ⟨vb, 0, none⟩), .pointer (some ⟨pb, 0, none⟩), .pointer (some ⟨bb, 0, none⟩)] w (SrEnd fb vb pb bb sb v B w (srch v d f (l.map toZ)))
def bothF (v : Int) (d f : Nat) (z1 z2 : List RowZ) : Int × Nat × List Int :=
 if (srch v d f z1).1 = 1 then srch v d f z1
 else if (srch v d (srch v d f z1).2.1 z2).1 = 1 ∨ (srch v d f z1).1 = (srch v d (srch v d f z1).2.1 z2).1 then srch v d (srch v d f z1).2.1 z2
 else (0, (srch v d (srch v d f z1).2.1 z2).2.1, [])
theorem srch_both {v : Int} {d f : Nat} {z : List RowZ} {i : Nat} (h1 : (solve z v 10000).1 = 1) (h2 : fracI (solve z v 10000).2.1 = some i) :
  srch v (d + 1) (f + 1) z = bothF v d f (z ++ [bnd v.toNat i 1 (-(rdQ (solve z v 10000).2.1 i).floor)]) (z ++ [bnd v.toNat i (-1) (rdQ (solve z v 10000).2.1 i).ceil]) := by
 rw [srch, if_pos h1, h2]; rfl
set_option maxRecDepth 100000 in
theorem frac_clo (x : S28) (w : World) : Calls Tryz.prog 78 #[.agg #[.int .i64 x.f0, .int .i64 x.f1]] w fun e w' => e = .returned (.bool (x.f1 != 1)) ∧ Below w.heap.size w w' := by
 go_enter Tryz.func78, Tryz.ntmps78
 go_wp2
 go_ret
 exact ⟨by first | rfl | simp, Z4w0⟩
theorem frac_idx {p : List Rat} : findP (fun x : S28 => x.f1 != 1) (p.map ofQ) 0 = match fracI p with | none => -1 | some i => (i : Int) := by
 rw [findP_is]
 have e : (p.map ofQ).findIdx? (fun x : S28 => x.f1 != 1) = fracI p := by
  unfold fracI
  rw [List.findIdx?_map]
  congr 1
  funext x
  show (((x.den : Int)) != 1) = decide (x.den ≠ 1)
  by_cases h : x.den = 1
  ·rw [h]; rfl
  ·have : ((x.den : Int) != 1) = true := by
    rw [bne_iff_ne]; omega
   rw [this]; exact (decide_eq_true h).symm
 rw [e]
 cases fracI p with
 | none => rfl
 | some i => simp
theorem cell_fp {S : Nat → Prop} {w w1 : World} (h : Fp S w w1) {a : Addr} {x : Value} (hc : w.cell? a = some x) (hn : ¬ S a.block) : w1.cell? a = some x := by
 rw [World.cell?_of_block (h.block a.block (World.block_lt_of_cell? w _ hc) hn)]; exact hc
theorem share5 {Goal : Prop} {Φ : Value → Nat → Option Addr → Nat → World → Prop} (Facts : World → Prop) (h1 : (∀ v g a c w, Facts w → Φ v g a c w) → Goal) (h2 : ∀ v g a c w, Facts w → Φ v g a c w) : Goal := h1 h2
set_option maxHeartbeats 64000000 in
set_option maxRecDepth 100000 in
theorem both_any {fb vb pb bb sb : Nat} {v : Int} {B d : Nat} (hap : Apart fb vb pb bb sb) (hS : Search fb vb pb bb sb v B d) (f : Nat) (fuel : Int) (l : List S40) (raws : List Value) (A : Option Addr) (c : Nat) (r1 r2 : S40) (A1 A2 : Option Addr) (c1 c2 : Nat) (w : World) (hfd : f ≤ d) (hff : fuel.toNat = f) (hf64 : In64 fuel) (hld : l.length + 1 + d ≤ 100000)
  (hC : RowsK fb pb w A l raws) (hc : l.length ≤ c) (hin : ∀ r, r ∈ l → RowIn r) (hr1 : RowIn r1) (hr2 : RowIn r2) (h1 : IntK fb pb w A1 r1.f0) (hc1 : r1.f0.length ≤ c1) (h2 : IntK fb pb w A2 r2.f0) (hc2 : r2.f0.length ≤ c2) (hX : WBx w fb vb pb bb sb v fuel (.slice none 0 0)) (hB : B ≤ w.heap.size) :
  Calls Tryz.prog 74 #[.slice A l.length c, .agg #[.slice A1 r1.f0.length c1, .int .i64 r1.f1], .agg #[.slice A2 r2.f0.length c2, .int .i64 r2.f1], .pointer (some ⟨sb, 0, none⟩)] w (SrEnd fb vb pb bb sb v B w (bothF v d f ((l ++ [r1]).map toZ) ((l ++ [r2]).map toZ))) := by
 have HC := Lib.hid hC
 have HR1 := Lib.hid (And.intro h1 hc1)
 have HR2 := Lib.hid (And.intro h2 hc2)
 have HIN := Lib.hid (And.intro hin (And.intro hr1 hr2))
 have HN := Lib.hid (And.intro hfd (And.intro hff (And.intro hf64 (And.intro hld (And.intro hc hB)))))
 have HS := Lib.hid hS
 have HAP := Lib.hid hap
 have HLT := Lib.hid (And.intro (blk_lt hX.kf) (And.intro (blk_lt hX.kp) (blk_lt hX.ks)))
 have HX := Lib.hid hX
 clear hC h1 hc1 h2 hc2 hX hin hr1 hr2 hfd hff hf64 hld hc hB hS hap
 go_enter Tryz.func74, Tryz.ntmps74
 go_wp2_with fail
 have hb0 : Below w.heap.size w ((w.alloc (.cells #[.slice A1 r1.f0.length c1, .int .i64 r1.f1] 40)).alloc (.cells #[.slice A2 r2.f0.length c2, .int .i64 r2.f1] 40)) := Z4w0
 have k1 : ((w.alloc (.cells #[.slice A1 r1.f0.length c1, .int .i64 r1.f1] 40)).alloc (.cells #[.slice A2 r2.f0.length c2, .int .i64 r2.f1] 40)).heap[w.heap.size]? = some (.cells #[.slice A1 r1.f0.length c1, .int .i64 r1.f1] 40 (0, 0)) := blk_alloc (blk_new _ _) _
 have k2 : ((w.alloc (.cells #[.slice A1 r1.f0.length c1, .int .i64 r1.f1] 40)).alloc (.cells #[.slice A2 r2.f0.length c2, .int .i64 r2.f1] 40)).heap[w.heap.size + 1]? = some (.cells #[.slice A2 r2.f0.length c2, .int .i64 r2.f1] 40 (0, 0)) := blk_newk2 (by simp)
 generalize (w.alloc (.cells #[.slice A1 r1.f0.length c1, .int .i64 r1.f1] 40)).alloc (.cells #[.slice A2 r2.f0.length c2, .int .i64 r2.f1] 40) = W0 at hb0 k1 k2 ⊢
 have HB0 := Lib.hid (Fp.of_below (S := fun k => k = fb ∨ k = pb) hb0)
 have HK := Lib.hid k2
 have HX0 := Lib.hid (HX.out.below hb0)
 have HCL := Lib.hid (show Cells [(⟨sb, 0, none⟩, .func (.func 76) #[] #[.pointer (some ⟨fb, 0, none⟩), .pointer (some ⟨vb, 0, none⟩), .pointer (some ⟨pb, 0, none⟩), .pointer (some ⟨bb, 0, none⟩)]), (⟨w.heap.size, 0, none⟩, .slice A1 r1.f0.length c1), (⟨w.heap.size, 1, none⟩, .int .i64 r1.f1)] W0 from ⟨blk_cell HX0.out.ks 0, blk_cell k1 0, blk_cell k1 1, trivial⟩)
 obtain ⟨R1, hR1⟩ : ∃ R1, srch v d f ((l ++ [r1]).map toZ) = R1 := ⟨_, rfl⟩
 have HQ1 := Lib.hid hR1
 clear hb0 k1 k2 hR1 HX
 apply share5 (fun w6 => Fp (fun k => k = fb ∨ k = pb) W0 w6 ∧ ∃ fu pv, WBx w6 fb vb pb bb sb v fu pv ∧ In64 fu ∧ fu.toNat = R1.2.1 ∧ RowI w6 B pv R1.2.2 ∧ (R1.1 ≠ 1 → pv = .slice none 0 0))
 ·intro hΦ
  have HΦ := Lib.hid hΦ
  clear hΦ
  have HBW := Lib.hid ((Below.refl W0.heap.size W0).drew)
  refine wp_region_L 7 (Cells _) Z4w1 (HCL.out.keep ((Below.refl _ _).drew)) (fun hHeld => ?_)
  refine tl0 ?_ (by decide +kernel) (by rfl) (fun _ _ _ => id) ?_ (by assumption) ?_; rotate_left 1; (focus exact Z4w2); focus try simp only [Act.put, List.setIfInBounds_toArray, List.set_cons_zero, List.set_cons_succ]
  refine tl1 ?_ (by decide +kernel) (by rfl) (fun _ _ _ => id) ?_ (by assumption) ?_; rotate_left 1; (focus exact Z4w2); focus try simp only [Act.put, List.setIfInBounds_toArray, List.set_cons_zero, List.set_cons_succ]
  refine tl3 ?_ (by decide +kernel) (by rfl) (fun _ _ _ => id) ?_ (by assumption) ?_; rotate_left 1; (focus exact Z4w2); focus try simp only [Act.put, List.setIfInBounds_toArray, List.set_cons_zero, List.set_cons_succ]
  refine wpAnyL_ready (rs := [2, 4]) Z4w1 (by simp) (al2 (fun K hK => ?_) (al4 (fun K hK => ?_) (AllReadyL.nil)))
  focus go_simp
  focus (refine (cloneR_any (HC.out.raw _ (HB0.out.tr (Fp.of_below HBW.out))) HC.out.max).mono ?_; rintro e w2_ ⟨v0_, rfl, ho0, hb2⟩; have HO := Lib.hid (own_less ho0 HBW.out.size); (try have HNE := Lib.hid (show v0_.ownBlock ≠ some g4_ from fun h => by have := (ho0.lt _ h).1; have := HPX.out.2; omega)); have HBW := Lib.hid (HBW.out.trans (hb2.mono HBW.out.size)); (try have HPX := hp_keep HPX hb2))
  focus try simp only []
  refine hK.out _ _ (fun _ => ?_) (fun hHeld => ?_)
  ·exact Z4w3
  focus (have hHeld := hHeld (by decide); clear hK K; refine Zp4w ?_)
  refine wpAnyL_ready (rs := [4]) Z4w1 (by simp) (al4 (fun K hK => ?_) (AllReadyL.nil))
  focus (refine sl_newh (.cells #[.slice A1 r1.f0.length c1, .int .i64 r1.f1] 40) 1 Z4w1 (by intro w_; go_simp; done) (fun g4_ w2_ hg4_ hb2 HPX => ?_); (try have HNE := Lib.hid (show v0_.ownBlock ≠ some g4_ from fun h => by have := (HO.out.lt _ h).2; have := hg4_.out; omega)); have HBW := Lib.hid (HBW.out.trans (hb2.mono HBW.out.size)); (try have HO := own_keepB HO hb2))
  refine hK.out _ _ (fun _ => ?_) (fun hHeld => ?_)
  ·exact Z4w3
  focus (have hHeld := hHeld (by decide); clear hK K; refine Zp4w ?_)
  refine wpAnyL_ready (rs := [5]) Z4w1 (by simp) (al5 (fun K hK => ?_) (AllReadyL.nil))
  focus (refine step_appR rfl (.tmp 12) (.tmp 14) _ rfl W0.heap.size 40 (.agg #[.slice none 0 0, .int .i64 0]) 2 32 Tryz.underlying22 infoRow rfl (by decide) _ l.length raws rfl HO.out (some ⟨g4_, 0, none⟩) 1 1 [.slice A1 r1.f0.length c1, .int .i64 r1.f1] rfl (raw_lit HPX rfl rfl) Z4w4 Z4w5 HBW.out.size ?_; intro v2_ w5_ HV2 hg2; have hcl := cells_grown hg2 (fun k h => (HO.out.lt k h).1) HBW.out HCL.out hHeld; have HBW := Lib.hid (Below.grown HBW.out hg2 HBW.out.size (fun k h => (HO.out.lt k h).1)); obtain ⟨A3_, c3_, rfl, hc3, -⟩ := own_C (d := k40) HV2.out (((HC.out.enc _ (HB0.out.tr (Fp.of_below HBW.out)))).app (Enc.one rfl (k40_mk w5_ r1 (A0 := A1) (c0 := c1) HR1.out.2 (HR1.out.1 _ (HB0.out.tr (Fp.of_below HBW.out)))))) Z4w6 Z4w4; have HRK := Lib.hid ((HC.out.step (HB0.out.tr (Fp.of_below HBW.out))).more (HR1.out.1.step (HB0.out.tr (Fp.of_below HBW.out))) HR1.out.2 Z4w5 HV2.out (Nat.lt_of_lt_of_le HLT.out.1 HB0.out.size) (Nat.lt_of_lt_of_le HLT.out.2.1 HB0.out.size)))
  refine hK.out _ _ (fun _ => ?_) (fun hHeld => ?_)
  ·exact hcl
  focus (have hHeld := hHeld (by decide); clear hK K; refine Zp4w ?_)
  refine wpAnyL_ready (rs := [6]) Z4w1 (by simp) (al6 (fun K hK => ?_) (AllReadyL.nil))
  focus go_simp
  focus (rw [show l.length + 1 = (l ++ [r1]).length by rw [List.length_append, List.length_singleton]] at hc3 ⊢; refine (HS.out f fuel (l ++ [r1]) _ A3_ c3_ _ HN.out.1 HN.out.2.1 HN.out.2.2.1 Z4w7 HRK.out hc3 (fun x hx => (List.mem_append.1 hx).elim (HIN.out.1 x) (fun h => by rw [List.mem_singleton.1 h]; exact HIN.out.2.1)) (HX0.out.below HBW.out) (Nat.le_trans (Nat.le_trans HN.out.2.2.2.2.2 HB0.out.size) HBW.out.size)).mono ?_; rintro e w6_ ⟨rfl, hFp, hend⟩; rw [HQ1.out] at hend ⊢)
  focus try simp only []
  refine hK.out _ _ (fun _ => ?_) (fun hHeld => ?_)
  ·exact Z4w8
  focus (have hHeld := hHeld (by decide); clear hK K; refine Zp4w ?_)
  refine wpAnyL_ready (rs := [7]) Z4w1 (by simp) (al7 (fun K hK => ?_) (AllReadyL.nil))
  focus go_simp
  refine hK.out _ _ (fun h => absurd rfl h) (fun _ => ?_)
  focus (clear hK K; refine Zp4w ?_)
  refine wpAnyL_done Z4w1 ?_ _; rotate_left 1
  focus (refine sl_newh (.cells #[.slice A1 r1.f0.length c1, .int .i64 r1.f1] 40) 1 Z4w1 (by intro w_; go_simp; done) (fun g4_ w2_ hg4_ hb2 HPX => ?_); (try have HNE := Lib.hid (show v0_.ownBlock ≠ some g4_ from fun h => by have := (HO.out.lt _ h).2; have := hg4_.out; omega)); have HBW := Lib.hid (HBW.out.trans (hb2.mono HBW.out.size)); (try have HO := own_keepB HO hb2))
  refine hK.out _ _ (fun _ => ?_) (fun hHeld => ?_)
  ·exact Z4w3
  focus (have hHeld := hHeld (by decide); clear hK K; refine Zp4w ?_)
  refine wpAnyL_ready (rs := [2]) Z4w1 (by simp) (al2 (fun K hK => ?_) (AllReadyL.nil))
  focus go_simp
  focus (refine (cloneR_any (HC.out.raw _ (HB0.out.tr (Fp.of_below HBW.out))) HC.out.max).mono ?_; rintro e w2_ ⟨v0_, rfl, ho0, hb2⟩; have HO := Lib.hid (own_less ho0 HBW.out.size); (try have HNE := Lib.hid (show v0_.ownBlock ≠ some g4_ from fun h => by have := (ho0.lt _ h).1; have := HPX.out.2; omega)); have HBW := Lib.hid (HBW.out.trans (hb2.mono HBW.out.size)); (try have HPX := hp_keep HPX hb2))
  focus try simp only []
  refine hK.out _ _ (fun _ => ?_) (fun hHeld => ?_)
  ·exact Z4w3
  focus (have hHeld := hHeld (by decide); clear hK K; refine Zp4w ?_)
  refine wpAnyL_ready (rs := [5]) Z4w1 (by simp) (al5 (fun K hK => ?_) (AllReadyL.nil))
  focus (refine step_appR rfl (.tmp 12) (.tmp 14) _ rfl W0.heap.size 40 (.agg #[.slice none 0 0, .int .i64 0]) 2 32 Tryz.underlying22 infoRow rfl (by decide) _ l.length raws rfl HO.out (some ⟨g4_, 0, none⟩) 1 1 [.slice A1 r1.f0.length c1, .int .i64 r1.f1] rfl (raw_lit HPX rfl rfl) Z4w4 Z4w5 HBW.out.size ?_; intro v2_ w5_ HV2 hg2; have hcl := cells_grown hg2 (fun k h => (HO.out.lt k h).1) HBW.out HCL.out hHeld; have HBW := Lib.hid (Below.grown HBW.out hg2 HBW.out.size (fun k h => (HO.out.lt k h).1)); obtain ⟨A3_, c3_, rfl, hc3, -⟩ := own_C (d := k40) HV2.out (((HC.out.enc _ (HB0.out.tr (Fp.of_below HBW.out)))).app (Enc.one rfl (k40_mk w5_ r1 (A0 := A1) (c0 := c1) HR1.out.2 (HR1.out.1 _ (HB0.out.tr (Fp.of_below HBW.out)))))) Z4w6 Z4w4; have HRK := Lib.hid ((HC.out.step (HB0.out.tr (Fp.of_below HBW.out))).more (HR1.out.1.step (HB0.out.tr (Fp.of_below HBW.out))) HR1.out.2 Z4w5 HV2.out (Nat.lt_of_lt_of_le HLT.out.1 HB0.out.size) (Nat.lt_of_lt_of_le HLT.out.2.1 HB0.out.size)))
  refine hK.out _ _ (fun _ => ?_) (fun hHeld => ?_)
  ·exact hcl
  focus (have hHeld := hHeld (by decide); clear hK K; refine Zp4w ?_)
  refine wpAnyL_ready (rs := [6]) Z4w1 (by simp) (al6 (fun K hK => ?_) (AllReadyL.nil))
  focus go_simp
  focus (rw [show l.length + 1 = (l ++ [r1]).length by rw [List.length_append, List.length_singleton]] at hc3 ⊢; refine (HS.out f fuel (l ++ [r1]) _ A3_ c3_ _ HN.out.1 HN.out.2.1 HN.out.2.2.1 Z4w7 HRK.out hc3 (fun x hx => (List.mem_append.1 hx).elim (HIN.out.1 x) (fun h => by rw [List.mem_singleton.1 h]; exact HIN.out.2.1)) (HX0.out.below HBW.out) (Nat.le_trans (Nat.le_trans HN.out.2.2.2.2.2 HB0.out.size) HBW.out.size)).mono ?_; rintro e w6_ ⟨rfl, hFp, hend⟩; rw [HQ1.out] at hend ⊢)
  focus try simp only []
  refine hK.out _ _ (fun _ => ?_) (fun hHeld => ?_)
  ·exact Z4w8
  focus (have hHeld := hHeld (by decide); clear hK K; refine Zp4w ?_)
  refine wpAnyL_ready (rs := [7]) Z4w1 (by simp) (al7 (fun K hK => ?_) (AllReadyL.nil))
  focus go_simp
  refine hK.out _ _ (fun h => absurd rfl h) (fun _ => ?_)
  focus (clear hK K; refine Zp4w ?_)
  refine wpAnyL_done Z4w1 ?_ _; rotate_left 1
  all_goals exact HΦ.out v0_ g4_ A3_ c3_ w6_ ⟨(Fp.of_below HBW.out).tr hFp, hend⟩
 ·intro v0 g4 A3 c3 w6 hf
  obtain ⟨hF6, fu, pv, hX6, hfu64, hfu, hRI, hpv⟩ := hf
  have HB6 := Lib.hid (HB0.out.tr hF6)
  have HX6 := Lib.hid hX6
  by_cases h1 : R1.1 = 1
  ·have e1 : (R1.1 = 1) = True := eq_true h1
   have e1b : (R1.1 == 1) = true := beq_iff_eq.2 h1
   have eb : bothF v d f ((l ++ [r1]).map toZ) ((l ++ [r2]).map toZ) = R1 := by unfold bothF; rw [HQ1.out, if_pos h1]
   have HE := Lib.hid (And.intro eb (And.intro hfu64 (And.intro hfu (And.intro hRI hpv))))
   clear hF6 hX6 hfu64 hfu hRI hpv eb h1 e1
   go_wp2
   go_ret
   rw [HE.out.1]
   exact ⟨rfl, HB6.out, fu, pv, HX6.out, HE.out.2.1, HE.out.2.2.1, HE.out.2.2.2.1, HE.out.2.2.2.2⟩
  ·have e1b : (R1.1 == 1) = false := beq_eq_false_iff_ne.2 h1
   have hpn := hpv h1
   subst hpn
   have HFU := Lib.hid (show R1.2.1 ≤ d ∧ fu.toNat = R1.2.1 ∧ In64 fu from ⟨by rw [← HQ1.out]; exact Nat.le_trans (srch_fuel v d f _) HN.out.1, hfu, hfu64⟩)
   have HCL2 := Lib.hid (show Cells [(⟨sb, 0, none⟩, .func (.func 76) #[] #[.pointer (some ⟨fb, 0, none⟩), .pointer (some ⟨vb, 0, none⟩), .pointer (some ⟨pb, 0, none⟩), .pointer (some ⟨bb, 0, none⟩)]), (⟨w.heap.size + 1, 0, none⟩, .slice A2 r2.f0.length c2), (⟨w.heap.size + 1, 1, none⟩, .int .i64 r2.f1)] w6 from
    ⟨blk_cell hX6.ks 0, cell_fp hF6 (blk_cell HK.out 0) Z4w9, cell_fp hF6 (blk_cell HK.out 1) Z4w9, trivial⟩)
   obtain ⟨R2, hR2⟩ : ∃ R2, srch v d R1.2.1 ((l ++ [r2]).map toZ) = R2 := ⟨_, rfl⟩
   have HQ2 := Lib.hid hR2
   have H1 := Lib.hid h1
   clear hF6 hX6 hfu64 hfu hRI hpv hR2 h1
   go_wp2_with fail
   apply share5 (fun w7 => Fp (fun k => k = fb ∨ k = pb) w6 w7 ∧ ∃ fu pv, WBx w7 fb vb pb bb sb v fu pv ∧ In64 fu ∧ fu.toNat = R2.2.1 ∧ RowI w7 B pv R2.2.2 ∧ (R2.1 ≠ 1 → pv = .slice none 0 0))
   ·intro hΦ
    have HΦ := Lib.hid hΦ
    clear hΦ
    have HBW := Lib.hid ((Below.refl w6.heap.size w6).drew)
    refine wp_region_L 7 (Cells _) Z4w1 (HCL2.out.keep ((Below.refl _ _).drew)) (fun hHeld => ?_)
    refine tl0 ?_ (by decide +kernel) (by rfl) (fun _ _ _ => id) ?_ (by assumption) ?_; rotate_left 1; (focus exact Z4w2); focus try simp only [Act.put, List.setIfInBounds_toArray, List.set_cons_zero, List.set_cons_succ]
    refine tl1 ?_ (by decide +kernel) (by rfl) (fun _ _ _ => id) ?_ (by assumption) ?_; rotate_left 1; (focus exact Z4w2); focus try simp only [Act.put, List.setIfInBounds_toArray, List.set_cons_zero, List.set_cons_succ]
    refine tl3 ?_ (by decide +kernel) (by rfl) (fun _ _ _ => id) ?_ (by assumption) ?_; rotate_left 1; (focus exact Z4w2); focus try simp only [Act.put, List.setIfInBounds_toArray, List.set_cons_zero, List.set_cons_succ]
    refine wpAnyL_ready (rs := [2, 4]) Z4w1 (by simp) (al2 (fun K hK => ?_) (al4 (fun K hK => ?_) (AllReadyL.nil)))
    focus go_simp
    focus (refine (cloneR_any (HC.out.raw _ (HB6.out.tr (Fp.of_below HBW.out))) HC.out.max).mono ?_; rintro e w2_ ⟨v0_, rfl, ho0, hb2⟩; have HO := Lib.hid (own_less ho0 HBW.out.size); (try have HNE := Lib.hid (show v0_.ownBlock ≠ some g4_ from fun h => by have := (ho0.lt _ h).1; have := HPX.out.2; omega)); have HBW := Lib.hid (HBW.out.trans (hb2.mono HBW.out.size)); (try have HPX := hp_keep HPX hb2))
    focus try simp only []
    refine hK.out _ _ (fun _ => ?_) (fun hHeld => ?_)
    ·exact Z4w3
    focus (have hHeld := hHeld (by decide); clear hK K; refine Zp4w ?_)
    refine wpAnyL_ready (rs := [4]) Z4w1 (by simp) (al4 (fun K hK => ?_) (AllReadyL.nil))
    focus (refine sl_newh (.cells #[.slice A2 r2.f0.length c2, .int .i64 r2.f1] 40) 1 Z4w1 (by intro w_; go_simp; done) (fun g4_ w2_ hg4_ hb2 HPX => ?_); (try have HNE := Lib.hid (show v0_.ownBlock ≠ some g4_ from fun h => by have := (HO.out.lt _ h).2; have := hg4_.out; omega)); have HBW := Lib.hid (HBW.out.trans (hb2.mono HBW.out.size)); (try have HO := own_keepB HO hb2))
    refine hK.out _ _ (fun _ => ?_) (fun hHeld => ?_)
    ·exact Z4w3
    focus (have hHeld := hHeld (by decide); clear hK K; refine Zp4w ?_)
    refine wpAnyL_ready (rs := [5]) Z4w1 (by simp) (al5 (fun K hK => ?_) (AllReadyL.nil))
    focus (refine step_appR rfl (.tmp 22) (.tmp 24) _ rfl w6.heap.size 40 (.agg #[.slice none 0 0, .int .i64 0]) 2 32 Tryz.underlying22 infoRow rfl (by decide) _ l.length raws rfl HO.out (some ⟨g4_, 0, none⟩) 1 1 [.slice A2 r2.f0.length c2, .int .i64 r2.f1] rfl (raw_lit HPX rfl rfl) Z4w4 Z4w5 HBW.out.size ?_; intro v2_ w5_ HV2 hg2; have hcl := cells_grown hg2 (fun k h => (HO.out.lt k h).1) HBW.out HCL2.out hHeld; have HBW := Lib.hid (Below.grown HBW.out hg2 HBW.out.size (fun k h => (HO.out.lt k h).1)); obtain ⟨A3_, c3_, rfl, hc3, -⟩ := own_C (d := k40) HV2.out (((HC.out.enc _ (HB6.out.tr (Fp.of_below HBW.out)))).app (Enc.one rfl (k40_mk w5_ r2 (A0 := A2) (c0 := c2) HR2.out.2 (HR2.out.1 _ (HB6.out.tr (Fp.of_below HBW.out)))))) Z4w6 Z4w4; have HRK := Lib.hid ((HC.out.step (HB6.out.tr (Fp.of_below HBW.out))).more (HR2.out.1.step (HB6.out.tr (Fp.of_below HBW.out))) HR2.out.2 Z4w5 HV2.out (Nat.lt_of_lt_of_le HLT.out.1 HB6.out.size) (Nat.lt_of_lt_of_le HLT.out.2.1 HB6.out.size)))
    refine hK.out _ _ (fun _ => ?_) (fun hHeld => ?_)
    ·exact hcl
    focus (have hHeld := hHeld (by decide); clear hK K; refine Zp4w ?_)
    refine wpAnyL_ready (rs := [6]) Z4w1 (by simp) (al6 (fun K hK => ?_) (AllReadyL.nil))
    focus go_simp
    focus (rw [show l.length + 1 = (l ++ [r2]).length by rw [List.length_append, List.length_singleton]] at hc3 ⊢; refine (HS.out R1.2.1 fu (l ++ [r2]) _ A3_ c3_ _ HFU.out.1 HFU.out.2.1 HFU.out.2.2 Z4w7 HRK.out hc3 (fun x hx => (List.mem_append.1 hx).elim (HIN.out.1 x) (fun h => by rw [List.mem_singleton.1 h]; exact HIN.out.2.2)) (HX6.out.below HBW.out) (Nat.le_trans (Nat.le_trans HN.out.2.2.2.2.2 HB6.out.size) HBW.out.size)).mono ?_; rintro e w6_ ⟨rfl, hFp, hend⟩; rw [HQ2.out] at hend ⊢)
    focus try simp only []
    refine hK.out _ _ (fun _ => ?_) (fun hHeld => ?_)
    ·exact Z4w8
    focus (have hHeld := hHeld (by decide); clear hK K; refine Zp4w ?_)
    refine wpAnyL_ready (rs := [7]) Z4w1 (by simp) (al7 (fun K hK => ?_) (AllReadyL.nil))
    focus go_simp
    refine hK.out _ _ (fun h => absurd rfl h) (fun _ => ?_)
    focus (clear hK K; refine Zp4w ?_)
    refine wpAnyL_done Z4w1 ?_ _; rotate_left 1
    focus (refine sl_newh (.cells #[.slice A2 r2.f0.length c2, .int .i64 r2.f1] 40) 1 Z4w1 (by intro w_; go_simp; done) (fun g4_ w2_ hg4_ hb2 HPX => ?_); (try have HNE := Lib.hid (show v0_.ownBlock ≠ some g4_ from fun h => by have := (HO.out.lt _ h).2; have := hg4_.out; omega)); have HBW := Lib.hid (HBW.out.trans (hb2.mono HBW.out.size)); (try have HO := own_keepB HO hb2))
    refine hK.out _ _ (fun _ => ?_) (fun hHeld => ?_)
    ·exact Z4w3
    focus (have hHeld := hHeld (by decide); clear hK K; refine Zp4w ?_)
    refine wpAnyL_ready (rs := [2]) Z4w1 (by simp) (al2 (fun K hK => ?_) (AllReadyL.nil))
    focus go_simp
    focus (refine (cloneR_any (HC.out.raw _ (HB6.out.tr (Fp.of_below HBW.out))) HC.out.max).mono ?_; rintro e w2_ ⟨v0_, rfl, ho0, hb2⟩; have HO := Lib.hid (own_less ho0 HBW.out.size); (try have HNE := Lib.hid (show v0_.ownBlock ≠ some g4_ from fun h => by have := (ho0.lt _ h).1; have := HPX.out.2; omega)); have HBW := Lib.hid (HBW.out.trans (hb2.mono HBW.out.size)); (try have HPX := hp_keep HPX hb2))
    focus try simp only []
    refine hK.out _ _ (fun _ => ?_) (fun hHeld => ?_)
    ·exact Z4w3
    focus (have hHeld := hHeld (by decide); clear hK K; refine Zp4w ?_)
    refine wpAnyL_ready (rs := [5]) Z4w1 (by simp) (al5 (fun K hK => ?_) (AllReadyL.nil))
    focus (refine step_appR rfl (.tmp 22) (.tmp 24) _ rfl w6.heap.size 40 (.agg #[.slice none 0 0, .int .i64 0]) 2 32 Tryz.underlying22 infoRow rfl (by decide) _ l.length raws rfl HO.out (some ⟨g4_, 0, none⟩) 1 1 [.slice A2 r2.f0.length c2, .int .i64 r2.f1] rfl (raw_lit HPX rfl rfl) Z4w4 Z4w5 HBW.out.size ?_; intro v2_ w5_ HV2 hg2; have hcl := cells_grown hg2 (fun k h => (HO.out.lt k h).1) HBW.out HCL2.out hHeld; have HBW := Lib.hid (Below.grown HBW.out hg2 HBW.out.size (fun k h => (HO.out.lt k h).1)); obtain ⟨A3_, c3_, rfl, hc3, -⟩ := own_C (d := k40) HV2.out (((HC.out.enc _ (HB6.out.tr (Fp.of_below HBW.out)))).app (Enc.one rfl (k40_mk w5_ r2 (A0 := A2) (c0 := c2) HR2.out.2 (HR2.out.1 _ (HB6.out.tr (Fp.of_below HBW.out)))))) Z4w6 Z4w4; have HRK := Lib.hid ((HC.out.step (HB6.out.tr (Fp.of_below HBW.out))).more (HR2.out.1.step (HB6.out.tr (Fp.of_below HBW.out))) HR2.out.2 Z4w5 HV2.out (Nat.lt_of_lt_of_le HLT.out.1 HB6.out.size) (Nat.lt_of_lt_of_le HLT.out.2.1 HB6.out.size)))
    refine hK.out _ _ (fun _ => ?_) (fun hHeld => ?_)
    ·exact hcl
    focus (have hHeld := hHeld (by decide); clear hK K; refine Zp4w ?_)
    refine wpAnyL_ready (rs := [6]) Z4w1 (by simp) (al6 (fun K hK => ?_) (AllReadyL.nil))
    focus go_simp
    focus (rw [show l.length + 1 = (l ++ [r2]).length by rw [List.length_append, List.length_singleton]] at hc3 ⊢; refine (HS.out R1.2.1 fu (l ++ [r2]) _ A3_ c3_ _ HFU.out.1 HFU.out.2.1 HFU.out.2.2 Z4w7 HRK.out hc3 (fun x hx => (List.mem_append.1 hx).elim (HIN.out.1 x) (fun h => by rw [List.mem_singleton.1 h]; exact HIN.out.2.2)) (HX6.out.below HBW.out) (Nat.le_trans (Nat.le_trans HN.out.2.2.2.2.2 HB6.out.size) HBW.out.size)).mono ?_; rintro e w6_ ⟨rfl, hFp, hend⟩; rw [HQ2.out] at hend ⊢)
    focus try simp only []
    refine hK.out _ _ (fun _ => ?_) (fun hHeld => ?_)
    ·exact Z4w8
    focus (have hHeld := hHeld (by decide); clear hK K; refine Zp4w ?_)
    refine wpAnyL_ready (rs := [7]) Z4w1 (by simp) (al7 (fun K hK => ?_) (AllReadyL.nil))
    focus go_simp
    refine hK.out _ _ (fun h => absurd rfl h) (fun _ => ?_)
    focus (clear hK K; refine Zp4w ?_)
    refine wpAnyL_done Z4w1 ?_ _; rotate_left 1
    all_goals exact HΦ.out v0_ g4_ A3_ c3_ w6_ ⟨(Fp.of_below HBW.out).tr hFp, hend⟩
   ·intro v0 g4 A3 c3 w7 hf
    obtain ⟨hF7, fu2, pv2, hX7, hfu64, hfu, hRI, hpv⟩ := hf
    have HB7 := Lib.hid (HB6.out.tr hF7)
    have HX7 := Lib.hid hX7
    have HE := Lib.hid (And.intro hfu64 (And.intro hfu (And.intro hRI hpv)))
    clear hF7 hX7 hfu64 hfu hRI hpv
    have hb0 : ∀ x, (R2.1 = 1 ∨ R1.1 = R2.1) → x = R2 → bothF v d f ((l ++ [r1]).map toZ) ((l ++ [r2]).map toZ) = x := fun x h hx => by unfold bothF; rw [HQ1.out, HQ2.out, if_neg H1.out, if_pos h, hx]
    by_cases h2 : R2.1 = 1
    ·have e2b : (R2.1 == 1) = true := beq_iff_eq.2 h2
     have eb := Lib.hid (hb0 _ (.inl h2) rfl)
     clear hb0 h2
     go_wp2
     go_ret
     rw [eb.out]
     exact ⟨rfl, HB7.out, fu2, pv2, HX7.out, HE.out.1, HE.out.2.1, HE.out.2.2.1, HE.out.2.2.2⟩
    ·have e2 : (R2.1 = 1) = False := eq_false h2
     have e2b : (R2.1 == 1) = false := beq_eq_false_iff_ne.2 h2
     by_cases h3 : R1.1 = R2.1
     ·have e3 : (R1.1 = R2.1) = True := eq_true h3
      have e3b : (R1.1 == R2.1) = true := beq_iff_eq.2 h3
      have eb := Lib.hid (hb0 _ (.inr h3) rfl)
      clear hb0 h2 h3 e2 e3
      go_wp2
      go_ret
      rw [eb.out]
      exact ⟨rfl, HB7.out, fu2, pv2, HX7.out, HE.out.1, HE.out.2.1, HE.out.2.2.1, HE.out.2.2.2⟩
     ·have e3b : (R1.1 == R2.1) = false := beq_eq_false_iff_ne.2 h3
      have eb := Lib.hid (show bothF v d f ((l ++ [r1]).map toZ) ((l ++ [r2]).map toZ) = (0, R2.2.1, []) by unfold bothF; rw [HQ1.out, HQ2.out, if_neg H1.out, if_neg (by rintro (h | h); exact h2 h; exact h3 h)])
      have hp2 := Lib.hid (HE.out.2.2.2 h2)
      clear hb0 h2 h3 e2
      go_wp2
      go_ret
      rw [eb.out]
      exact ⟨rfl, HB7.out, fu2, _, HX7.out, HE.out.1, HE.out.2.1, by rw [hp2.out]; exact ⟨rfl, .inl ⟨rfl, rfl⟩⟩, fun _ => hp2.out⟩
end Go.Proofs.YtbpjnkeilhfajaaGreat.Ln
end
