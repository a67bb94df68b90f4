/- cnf.each over cnf.Clauses' closure, by a state of one's own. -/
import Derived.Test.YthckboogibhjaaaDoorTrmA
namespace Go.Proofs.YthckboogibhjaaaDoor.Trm
set_option linter.unusedVariables false
set_option linter.unusedSimpArgs false
open Go.RowKit Go.Proofs.YthckboogibhjaaaDoorW.PrintWords Go.Proofs.YthckboogibhjaaaDoorW.PrintMore

mutual
/-- cnf.each. -/
def eachT (f : List S24 → S24 → List S24) : S24 → List S24 → List S24
  | ⟨op, nm, n, l⟩, s => if joinsB op = true then eachL f l (f s ⟨op, nm, n, l⟩) else f s ⟨op, nm, n, l⟩
def eachL (f : List S24 → S24 → List S24) : List S24 → List S24 → List S24
  | [], s => s
  | x :: l, s => eachL f l (eachT f x s)
end
theorem eachT_mk (f : List S24 → S24 → List S24) (t : S24) (s : List S24) : eachT f t s = if joinsB t.f0 = true then eachL f t.f3 (f s t) else f s t := by cases t; rw [eachT]

mutual
theorem eachT_len (f : List S24 → S24 → List S24) (hf : ∀ s x, (f s x).length ≤ s.length + 1) : ∀ (t : S24) (s : List S24), (eachT f t s).length ≤ s.length + tsize t
  | ⟨op, nm, n, l⟩, s => by
    rw [eachT, tsize]
    have h1 := hf s ⟨op, nm, n, l⟩
    have h2 := eachL_len f hf l (f s ⟨op, nm, n, l⟩)
    split <;> omega
theorem eachL_len (f : List S24 → S24 → List S24) (hf : ∀ s x, (f s x).length ≤ s.length + 1) : ∀ (l : List S24) (s : List S24), (eachL f l s).length ≤ s.length + lsize l
  | [], s => by rw [eachL]; omega
  | x :: l, s => by
    rw [eachL, lsize]
    have h1 := eachT_len f hf x s
    have h2 := eachL_len f hf l (eachT f x s)
    omega
end

/-- What may have turned: the block mb and a row's own block. -/
def Turn (mb : Nat) (va v1 : Value) (W w' : World) : Prop := (v1.ownBlock = va.ownBlock ∨ ∃ b, v1.ownBlock = some b ∧ W.heap.size ≤ b) ∧ (∀ k, k < W.heap.size → k ≠ mb → some k ≠ va.ownBlock → w'.heap[k]? = W.heap[k]?) ∧ W.heap.size ≤ w'.heap.size
theorem Turn.refl (mb : Nat) (va : Value) (W : World) : Turn mb va va W W := ⟨.inl rfl, fun _ _ _ _ => rfl, Nat.le_refl _⟩
theorem Turn.alloc {mb : Nat} {va v1 : Value} {W w' : World} (h : Turn mb va v1 W w') (o : Obj) : Turn mb va v1 W (w'.alloc o) :=
  ⟨h.1, fun k h1 h2 h3 => (Below.heap_alloc _ _ _ (Nat.lt_of_lt_of_le h1 h.2.2)).trans (h.2.1 k h1 h2 h3), by have := h.2.2; simp; omega⟩
theorem Turn.trans {mb : Nat} {a b c : Value} {W X Y : World} (h : Turn mb a b W X) (k : Turn mb b c X Y) : Turn mb a c W Y := by
  obtain ⟨h1, h2, h3⟩ := h
  obtain ⟨k1, k2, k3⟩ := k
  refine ⟨?_, ?_, Nat.le_trans h3 k3⟩
  · rcases k1 with e | ⟨b', e1, e2⟩
    · rw [e]; exact h1
    · exact .inr ⟨b', e1, Nat.le_trans h3 e2⟩
  · intro i i1 i2 i3
    have hne : some i ≠ b.ownBlock := by
      rcases h1 with e | ⟨b', e1, e2⟩
      · rw [e]; exact i3
      · rw [e1]; intro he; injection he with he; omega
    exact (k2 i (Nat.lt_of_lt_of_le i1 h3) i2 hne).trans (h2 i i1 i2 i3)

theorem meas_lt {j n : Nat} (h : j < n) : n - (j + 1) < n - j := by omega
theorem succ_lt {j n : Nat} (h : j < n) (k : n ≤ 9223372036854775807) : j + 1 < 9223372036854775808 := by omega

/-- An element of a row of terms, with what it leads to. -/
theorem el_TF {W : World} {P : Nat → Prop} {A : Option Addr} {l : List S24} (hF : Kd.F k24 W P A l.length l) {j : Nat} (h : j < l.length) :
    ∃ ad A' c', A = some ad ∧ W.cell? (ad.add (j * 4)) = some (.int .i64 l[j].f0) ∧ W.cell? ⟨(ad.add (j * 4)).block, (ad.add (j * 4)).off + 1, none⟩ = some (.string l[j].f1) ∧ W.cell? ⟨(ad.add (j * 4)).block, (ad.add (j * 4)).off + 2, none⟩ = some (.int .i64 l[j].f2) ∧ W.cell? ⟨(ad.add (j * 4)).block, (ad.add (j * 4)).off + 3, none⟩ = some (.slice A' l[j].f3.length c') ∧ l[j].f3.length ≤ c' ∧ Kd.F k24 W P A' l[j].f3.length l[j].f3 := by
  obtain ⟨ad, c, e, _, hK, hc0, _⟩ := Kd.F_get hF z24 (j : Int) (by omega) (by omega)
  rw [Int.toNat_natCast] at hK hc0
  rw [show l.getD j z24 = l[j] by simp [List.getElem?_eq_getElem h]] at hK
  have hc : ∀ i u, c[i]? = some u → W.cell? (ad.add (j * 4 + i)) = some u := hc0
  obtain ⟨A3, c3, rfl, l3, g3⟩ := k24_openF hK
  exact ⟨ad, A3, c3, e, hc 0 _ rfl, by rw [← add_field _ _ 1 (by omega)]; exact hc 1 _ rfl, by rw [← add_field _ _ 2 (by omega)]; exact hc 2 _ rfl, by rw [← add_field _ _ 3 (by omega)]; exact hc 3 _ rfl, l3, g3⟩

set_option maxHeartbeats 8000000 in
set_option maxRecDepth 100000 in
theorem each_any (I : List S24 → Value → World → Prop) (f : List S24 → S24 → List S24) (mb bx : Nat) (w0 : World) (P : Nat → Prop)
    (hI0 : ∀ s va W, I s va W → Below w0.heap.size w0 W) (hI1 : ∀ s va W o, I s va W → I s va (W.alloc o)) (hI2 : ∀ s va W k, I s va W → va.ownBlock = some k → k < W.heap.size) (hI3 : ∀ s va W, I s va W → mb < W.heap.size)
    (hf : ∀ s x, (f s x).length ≤ s.length + 1) (H : ∀ (x : S24) (B : Option Addr) (d : Nat) s va W, I s va W → s.length + 1 ≤ 1000000 → Kd.F k24 w0 P B x.f3.length x.f3 → x.f3.length ≤ d →
      Calls Tryd.prog 24 #[.agg #[.int .i64 x.f0, .string x.f1, .int .i64 x.f2, .slice B x.f3.length d], .pointer (some ⟨bx, 0, none⟩)] W fun e w' => e = .returned (.tuple #[]) ∧ ∃ v1, I (f s x) v1 w' ∧ Turn mb va v1 W w') :
    ∀ (n : Nat) (t : S24), tsize t ≤ n → ∀ (A : Option Addr) (c : Nat) (s : List S24) (va : Value) (w : World), I s va w → s.length + tsize t ≤ 1000000 → Kd.F k24 w0 P A t.f3.length t.f3 → t.f3.length ≤ c →
      Calls Tryd.prog 23 #[.agg #[.int .i64 t.f0, .string t.f1, .int .i64 t.f2, .slice A t.f3.length c], .func (.func 24) #[] #[.pointer (some ⟨bx, 0, none⟩)]] w fun e w' => e = .returned (.tuple #[]) ∧ ∃ v1, I (eachT f t s) v1 w' ∧ Turn mb va v1 w w' := by
  intro n
  induction n with
  | zero => intro t ht; rw [tsize_mk] at ht; omega
  | succ n ih =>
    intro t ht A c s va w hI hlen hC hc
    have HC := Lib.hid hC
    have HI := Lib.hid (hI1 _ _ _ (.cells #[.int .i64 t.f0, .string t.f1, .int .i64 t.f2, .slice A t.f3.length c] 24) hI)
    have H1 := Lib.hid hI
    have HE := Lib.hid (eachT_mk f t s)
    have HH := Lib.hid H
    have HIH := Lib.hid ih
    have zm := hI3 _ _ _ hI
    have ho : some w.heap.size ≠ va.ownBlock := fun he => by have := hI2 _ _ _ _ hI he.symm; omega
    have HO := Lib.hid ho
    have e0 := Lib.hid (blk_new w (.cells #[.int .i64 t.f0, .string t.f1, .int .i64 t.f2, .slice A t.f3.length c] 24))
    have zs := Lib.hid (show w.heap.size < (w.alloc (.cells #[.int .i64 t.f0, .string t.f1, .int .i64 t.f2, .slice A t.f3.length c] 24)).heap.size by simp)
    rw [tsize_mk] at hlen
    have hlen1 : s.length + 1 ≤ 1000000 := by omega
    have hfl := hf s t
    have HF := Lib.hid hf
    have G0 := Lib.hid hI0
    have G1 := Lib.hid hI1
    clear hC hI H ih ho hI0 hI1 hI2 hI3 hf
    go_enter Tryd.func23, Tryd.ntmps23
    go_wp2_with (first | (go_at_call 24; refine (HH.out t A c s va _ HI.out hlen1 HC.out hc).mono ?_; rintro e w1 ⟨rfl, v1, q1, q2⟩; have Q1 := Lib.hid q1; have Q2 := Lib.hid q2; have k0 := Lib.hid ((q2.2.1 w.heap.size zs.out (Nat.ne_of_gt zm) HO.out).trans e0.out); clear q1 q2; have p0 := (blk_cell k0.out 0).trans rfl; have p3 := (blk_cell k0.out 3).trans rfl) | (go_at_call 25; refine (joins_any _ _).mono ?_; rintro e w2 ⟨rfl, rfl⟩))
    · rename_i hjo
      have HT := Lib.hid (((Turn.refl mb va w).alloc (.cells #[.int .i64 t.f0, .string t.f1, .int .i64 t.f2, .slice A t.f3.length c] 24)).trans Q2.out)
      have he := HE.out
      rw [if_pos hjo] at he
      have HE2 := Lib.hid he
      clear he HE p0 p3 k0 Q2 hjo
      go_loopw [15] (fun v wr => ∃ (j : Nat) (v2 : Value) (s2 : List S24), j ≤ t.f3.length ∧ v = .int .i64 j ∧ I s2 v2 wr ∧ eachL f t.f3 (f s t) = eachL f (t.f3.drop j) s2 ∧ s2.length + lsize (t.f3.drop j) ≤ 1000000 ∧ Turn mb va v2 w wr) (fun v _ => t.f3.length - (intOf v).toNat)
      case atStart => exact ⟨0, v1, f s t, Nat.zero_le _, rfl, Q1.out, by rw [List.drop_zero], by rw [List.drop_zero]; omega, HT.out⟩
      case round =>
        obtain ⟨j, v2, s2, hj, rfl, hI, hL, hS2, hT⟩ := hrel
        by_cases hjl : j < t.f3.length
        · have hmax := Kd.F_max HC.out
          obtain ⟨ad, A', c', e, x0, x1, x2, x3, l', C'⟩ := el_TF HC.out hjl
          have hbw : Below w0.heap.size w0 wr := G0.out _ _ _ hI
          have hmem : t.f3[j] ∈ t.f3 := List.getElem_mem hjl
          have hxn0 : tsize t.f3[j] ≤ n := by have hts := lsize_mem hmem; rw [tsize_mk] at ht; clear hmax; omega
          rw [List.drop_eq_getElem_cons hjl, eachL] at hL
          rw [List.drop_eq_getElem_cons hjl, lsize] at hS2
          have hxl := eachT_len f HF.out t.f3[j] s2
          generalize t.f3[j] = x at *
          replace x0 := (hbw.cell (World.block_lt_of_cell? w0 _ x0)).trans x0
          replace x1 := (hbw.cell (World.block_lt_of_cell? w0 _ x1)).trans x1
          replace x2 := (hbw.cell (World.block_lt_of_cell? w0 _ x2)).trans x2
          replace x3 := (hbw.cell (World.block_lt_of_cell? w0 _ x3)).trans x3
          subst e
          have hxn : tsize x ≤ n := hxn0
          have hx6 : s2.length + tsize x ≤ 1000000 := by omega
          have hx7 := Lib.hid (show (eachT f x s2).length + lsize (t.f3.drop (j + 1)) ≤ 1000000 by omega)
          clear hS2 hxl
          have EW := Lib.hid (wrapj (succ_lt hjl hmax))
          have HCx := Lib.hid C'
          have HL := Lib.hid hL
          have HTT := Lib.hid (hT.alloc (.cells #[.int .i64 x.f0, .string x.f1, .int .i64 x.f2, .slice A' x.f3.length c'] 24))
          have HI2 := Lib.hid (G1.out _ _ _ (.cells #[.int .i64 x.f0, .string x.f1, .int .i64 x.f2, .slice A' x.f3.length c'] 24) hI)
          clear hI hL hT hbw C' hmax
          go_wp2_with (go_at_call 23; refine (HIH.out x hxn A' c' s2 v2 _ HI2.out hx6 HCx.out l').mono ?_; rintro e w5 ⟨rfl, v5, q5, q6⟩; have Q5 := Lib.hid q5; have Q6 := Lib.hid (HTT.out.trans q6); clear q5 q6)
          refine ⟨⟨j + 1, v5, eachT f x s2, hjl, congrArg (Value.int .i64) EW.out, Q5.out, HL.out, hx7.out, Q6.out⟩, ?_⟩
          rw [EW.out]
          simp only [intOf, Int.toNat_natCast]
          exact meas_lt hjl
        · have hjj : j = t.f3.length := by omega
          subst hjj
          rw [List.drop_length, eachL] at hL
          go_wp2
          exact bodyPost_end (v := .tuple #[]) (by simp [results, Tryd.results23, go_sem]) rfl ⟨rfl, v2, by rw [HE2.out, hL]; exact hI, hT⟩
    · rename_i hjo
      refine bodyPost_end (v := .tuple #[]) (by simp [results, Tryd.results23, go_sem]) rfl ⟨rfl, v1, ?_, ((Turn.refl mb va w).alloc _).trans Q2.out⟩
      rw [HE.out, if_neg (by rw [hjo]; decide)]
      exact Q1.out
end Go.Proofs.YthckboogibhjaaaDoor.Trm
