import Derived.Test.YtbpjnkeilhfajaaGreatSimC
section
/- Plain: on small rows linear's exchange always finds room, and tells the simplex's next state. -/
namespace Go.Proofs.YtbpjnkeilhfajaaGreat.Lin
open Go.RowKit Go.Proofs.YtbpjnkeilhfajaaGreat.Given Go.Proofs.YtbpjnkeilhfajaaGreat.Num Go.Proofs.YtbpjnkeilhfajaaGreat.Sim
set_option linter.unusedVariables false
set_option linter.unusedSimpArgs false
theorem frac_fit {D : Int} {B : Nat} {x : Rat} (hD : D ≠ 0) (h1 : D.natAbs < 9223372036854775808) (h2 : B < 9223372036854775808) (h : Frac D B x) : Fit x := by
 obtain ⟨a, b⟩ := h.parts hD
 have := Nat.le_of_dvd (by omega) a
 unfold Fit In64
 omega
theorem frac_mul {D E : Int} {B C : Nat} {x y : Rat} (hx : Frac D B x) (hy : Frac E C y) : Frac (D * E) (B * C) (x * y) := by
 obtain ⟨X, e1, e2⟩ := hx
 obtain ⟨Y, f1, f2⟩ := hy
 exact ⟨X * Y, by rw [Rat.intCast_mul, Rat.intCast_mul, ← e1, ← f1]; grind, abs_mul_le e2 f2⟩
theorem frac_up {D E : Int} {B C : Nat} {x : Rat} (hx : Frac D B x) (hE : E.natAbs ≤ C) : Frac (D * E) (B * C) x := by
 obtain ⟨X, e1, e2⟩ := hx
 exact ⟨X * E, by rw [Rat.intCast_mul, Rat.intCast_mul, ← e1]; grind, abs_mul_le e2 hE⟩
theorem frac_up' {D E : Int} {B C : Nat} {x : Rat} (hx : Frac E B x) (hD : D.natAbs ≤ C) : Frac (D * E) (C * B) x := by
 obtain ⟨X, e1, e2⟩ := hx
 exact ⟨D * X, by rw [Rat.intCast_mul, Rat.intCast_mul, ← e1]; grind, abs_mul_le hD e2⟩
theorem frac_sub {D : Int} {B C : Nat} {x y : Rat} (hx : Frac D B x) (hy : Frac D C y) : Frac D (B + C) (x - y) := by
 obtain ⟨E, e1, e2⟩ := hx
 obtain ⟨F, f1, f2⟩ := hy
 exact ⟨E - F, by rw [Rat.intCast_sub, ← e1, ← f1]; grind, abs_sub_le e2 f2⟩
theorem frac_neg {D : Int} {B : Nat} {x : Rat} (hx : Frac D B x) : Frac D B (0 - x) := by
 obtain ⟨E, e1, e2⟩ := hx
 exact ⟨-E, by rw [Rat.intCast_neg, ← e1]; grind, by omega⟩
theorem frac_div {D : Int} (hD : D ≠ 0) {E : Int} {B : Nat} {x y : Rat} (hx : Frac D B x) (hy : y * D = (E : Rat)) (hy0 : y ≠ 0) : Frac E B (x / y) := by
 obtain ⟨X, e1, e2⟩ := hx
 have := cast_ne hD
 exact ⟨X, by rw [← hy, ← e1]; grind, e2⟩
theorem upd_is {q : Qu} {t : Tab} {s : St} (h : Rep q t s) (hi : Inv q s) {v a : Nat} {by_ : Rat} (hv : v < q.N) : ∀ (d i : Nat) (val : List Rat), i + d = q.m → val.length = q.N →
  (∀ j, i ≤ j → j < q.m → j ≠ a → s.row j v ≠ 0 → Fit (s.row j v * by_) ∧ Fit (rdQ val (s.bas j) + s.row j v * by_)) →
  ∃ val', upd t v a by_ d i val = some val' ∧ val'.length = q.N ∧ (∀ j, i ≤ j → j < q.m → j ≠ a → rdQ val' (s.bas j) = rdQ val (s.bas j) + s.row j v * by_) ∧ (∀ k, (∀ j, i ≤ j → j < q.m → j ≠ a → s.bas j ≠ k) → rdQ val' k = rdQ val k)
 | 0, i, val, hid, hl, hf => ⟨val, rfl, hl, fun j h1 h2 => by omega, fun k _ => rfl⟩
 | d + 1, i, val, hid, hl, hf => by
  have hr := h.row i v (by omega) hv
  have hb := h.bas i (by omega)
  have hlt := hi.lt i (by omega)
  rw [upd, hr, hb]
  by_cases hc : i ≠ a ∧ s.row i v ≠ 0
  ·rw [if_pos hc]
   obtain ⟨f1, f2⟩ := hf i (Nat.le_refl _) (by omega) hc.1 hc.2
   rw [okQ_fit f1, Option.bind_some, okQ_fit f2, Option.bind_some]
   have hset : ∀ k, rdQ (val.set (s.bas i) (rdQ val (s.bas i) + s.row i v * by_)) k = if k = s.bas i then rdQ val (s.bas i) + s.row i v * by_ else rdQ val k := fun k => rdQ_set (by omega) _ k
   have hne : ∀ j, i + 1 ≤ j → j < q.m → s.bas j ≠ s.bas i := fun j h1 h2 e => by have := hi.inj j i h2 (by omega) e; omega
   obtain ⟨val', e1, e2, e3, e4⟩ := upd_is h hi (a := a) (by_ := by_) hv d (i + 1) (val.set (s.bas i) (rdQ val (s.bas i) + s.row i v * by_)) (by omega) (by rw [List.length_set]; exact hl) (fun j h1 h2 h3 h4 => by
    rw [hset, if_neg (hne j h1 h2)]
    exact hf j (by omega) h2 h3 h4)
   refine ⟨val', e1, e2, fun j h1 h2 h3 => ?_, fun k hk => ?_⟩
   ·by_cases e : j = i
    ·rw [e, e4 (s.bas i) (fun j' a1 a2 _ => hne j' a1 a2), hset, if_pos rfl]
    ·rw [e3 j (by omega) h2 h3, hset, if_neg (hne j (by omega) h2)]
   ·rw [e4 k (fun j a1 a2 a3 => hk j (by omega) a2 a3), hset, if_neg (fun e => hk i (Nat.le_refl _) (by omega) hc.1 e.symm)]
  ·rw [if_neg hc]
   obtain ⟨val', e1, e2, e3, e4⟩ := upd_is h hi (a := a) (by_ := by_) hv d (i + 1) val (by omega) hl (fun j h1 h2 h3 h4 => hf j (by omega) h2 h3 h4)
   refine ⟨val', e1, e2, fun j h1 h2 h3 => ?_, fun k hk => e4 k (fun j a1 a2 a3 => hk j (by omega) a2 a3)⟩
   by_cases e : j = i
   ·subst e
    have h0 : s.row j v = 0 := Classical.byContradiction fun hn => hc ⟨h3, hn⟩
    rw [e4 (s.bas j) (fun j' a1 a2 _ e => by have := hi.inj j' j a2 (by omega) e; omega), h0]; grind
   ·exact e3 j (by omega) h2 h3
structure Lim (q : Qu) (l : Nat → Int) : Prop where
 is : ∀ v, q.lim v = (l v : Rat)
 small : ∀ v, (l v).natAbs ≤ 9
theorem map_getD {l : List Rat} (f : Rat → Rat) {k : Nat} (h : k < l.length) : rdQ (l.map f) k = f (rdQ l k) := by
 unfold rdQ; simp [List.getElem?_eq_getElem h]
theorem rdQ_mem {l : List Rat} {n : Rat} (h : n ∈ l) : ∃ k, k < l.length ∧ rdQ l k = n := by
 obtain ⟨k, hk, e⟩ := List.getElem_of_mem h
 exact ⟨k, hk, by unfold rdQ; simp [List.getElem?_eq_getElem hk, e]⟩
theorem rdR_set {l : List (List Rat)} {i : Nat} (h : i < l.length) (x : List Rat) (k : Nat) : rdR (l.set i x) k = if k = i then x else rdR l k := by
 unfold rdR
 rw [List.getD_eq_getElem?_getD, List.getD_eq_getElem?_getD, List.getElem?_set]
 by_cases e : i = k
 ·rw [if_pos e, if_pos h, if_pos e.symm]; rfl
 ·rw [if_neg e, if_neg (fun e' => e e'.symm)]
theorem rdN_set {l : List Nat} {i : Nat} (h : i < l.length) (x : Nat) (k : Nat) : rdN (l.set i x) k = if k = i then x else rdN l k := by
 unfold rdN
 rw [List.getD_eq_getElem?_getD, List.getD_eq_getElem?_getD, List.getElem?_set]
 by_cases e : i = k
 ·rw [if_pos e, if_pos h, if_pos e.symm]; rfl
 ·rw [if_neg e, if_neg (fun e' => e e'.symm)]
theorem exch_sim {q : Qu} {c : Nat → Nat → Int} {l : Nat → Int} {t : Tab} {s : St} (h : Rep q t s) (hi : Inv q s) (hs : Small q c) (hl : Lim q l) {a v : Nat} (hw : Wrong q s a) (hh : Helps q s a v) :
  ∃ t', exchange q.n t a v = some t' ∧ Rep q t' (Sim.step q s a v) := by
 have ha := hw.1
 have hv := hh.1
 have hc := good_ne hh.2.1
 have hD := dt_ne hi hs
 have hDl := dt_le hs s
 have hwN := hi.lt a ha
 have hnb := not_basic hi ha hc
 have hne : s.bas a ≠ v := fun e => hnb ⟨a, ha, e⟩
 have fr : ∀ i k, i < q.m → k < q.N → Frac (dt q c s) 4374 (s.row i k) := fun i k h1 h2 => row_frac hi hs h1 h2
 have fv : ∀ k, k < q.N → Frac (dt q c s) 118098 (s.val k) := fun k hk => val_frac hi hs hl.is hl.small hk
 have fl : ∀ k, Frac (dt q c s) 39366 (q.lim k) := fun k => by rw [hl.is]; exact (Frac.int _ hDl (hl.small k)).mono (by decide)
 obtain ⟨E, hE, hEl⟩ := fr a v ha hv
 have hE0 : E ≠ 0 := by
  intro e
  rw [e] at hE
  have h1 := cast_ne hD
  have : s.row a v * (dt q c s : Rat) = 0 := hE
  grind
 generalize dt q c s = D at *
 have big : (D * E).natAbs < 9223372036854775808 := by have := abs_mul_le hDl hEl; omega
 have hDE : D * E ≠ 0 := Int.mul_ne_zero hD hE0
 have fit1 : ∀ {B : Nat} {x : Rat}, B < 9223372036854775808 → Frac E B x → Fit x := fun hB hx => frac_fit hE0 (by omega) hB hx
 have fit2 : ∀ {B : Nat} {x : Rat}, B < 9223372036854775808 → Frac (D * E) B x → Fit x := fun hB hx => frac_fit hDE big hB hx
 have lw : rdQ t.limits (s.bas a - q.n) = q.lim (s.bas a) := by
  rw [h.lim (s.bas a - q.n) (by have := hw.2.1; unfold Qu.N at hwN; omega), show q.n + (s.bas a - q.n) = s.bas a by have := hw.2.1; omega]
 obtain ⟨v1, v2, v3, v4⟩ := step_val hi ha hc
 have fR := frac_sub (fl (s.bas a)) (fv (s.bas a) hwN)
 have fB := frac_div hD fR hE hc
 generalize hby : (q.lim (s.bas a) - s.val (s.bas a)) / s.row a v = by_ at *
 have fitR : Fit (q.lim (s.bas a) - s.val (s.bas a)) := frac_fit hD (by omega) (by decide) fR
 unfold exchange
 rw [h.bas a ha, lw, h.val _ hwN, h.row a v ha hv, okQ_fit fitR, Option.bind_some, hby, okQ_fit (fit1 (by decide) fB), Option.bind_some]
 have g1 : ∀ k, rdQ (t.value.set (s.bas a) (q.lim (s.bas a))) k = if k = s.bas a then q.lim (s.bas a) else rdQ t.value k := fun k => rdQ_set (by rw [h.vl]; exact hwN) _ k
 have e1 : rdQ (t.value.set (s.bas a) (q.lim (s.bas a))) v = s.val v := by rw [g1, if_neg (Ne.symm hne), h.val v hv]
 have fX : Fit (s.val v + by_) := fit2 (B := 118098 * 4374 + 4374 * (39366 + 118098)) (by decide) ((frac_up (fv v hv) hEl).add (frac_up' fB hDl))
 rw [e1, okQ_fit fX, Option.bind_some]
 have g2 : ∀ k, rdQ ((t.value.set (s.bas a) (q.lim (s.bas a))).set v (s.val v + by_)) k = if k = v then s.val v + by_ else if k = s.bas a then q.lim (s.bas a) else rdQ t.value k := fun k => by
  rw [rdQ_set (by rw [List.length_set, h.vl]; exact hv), g1]
 have bne : ∀ j, j < q.m → s.bas j ≠ v := fun j hj e => hnb ⟨j, hj, e⟩
 have bna : ∀ j, j < q.m → j ≠ a → s.bas j ≠ s.bas a := fun j hj hja e => hja (hi.inj j a hj ha e)
 obtain ⟨val', u1, u2, u3, u4⟩ := upd_is h hi (a := a) (by_ := by_) hv q.m 0 ((t.value.set (s.bas a) (q.lim (s.bas a))).set v (s.val v + by_)) (by omega) (by rw [List.length_set, List.length_set]; exact h.vl) (fun j _ hj hja _ => by
  have hbj := hi.lt j hj
  have fP := frac_mul (fr j v hj hv) fB
  refine ⟨fit2 (by decide) fP, ?_⟩
  rw [g2, if_neg (bne j hj), if_neg (bna j hj hja), h.val _ hbj]
  exact fit2 (B := 118098 * 4374 + 4374 * (39366 + 118098)) (by decide) ((frac_up (fv _ hbj) hEl).add fP))
 rw [h.rl, u1, Option.bind_some]
 have rl := h.cl a ha
 have g3 : ∀ k, rdQ (((rdR t.rows a).set v 0).set (s.bas a) (-1)) k = if k = s.bas a then -1 else if k = v then 0 else rdQ (rdR t.rows a) k := fun k => by
  rw [rdQ_set (by rw [List.length_set, rl]; exact hwN), rdQ_set (by rw [rl]; exact hv)]
 have fN : ∀ k, k < q.N → Frac E 4374 (rdQ (((rdR t.rows a).set v 0).set (s.bas a) (-1)) k / s.row a v) := fun k hk => by
  rw [g3]
  by_cases e : k = s.bas a
  ·rw [if_pos e]
   have : Frac D 4374 (-1 : Rat) := ⟨-D, by rw [Rat.intCast_neg]; grind, by omega⟩
   exact frac_div hD this hE hc
  ·rw [if_neg e]
   by_cases e2 : k = v
   ·rw [if_pos e2]
    have : Frac D 4374 (0 : Rat) := ⟨0, by show (0 : Rat) * _ = 0; grind, by decide⟩
    exact frac_div hD this hE hc
   ·rw [if_neg e2, h.row a k ha hk]
    exact frac_div hD (fr a k ha hk) hE hc
 have ln : (((rdR t.rows a).set v 0).set (s.bas a) (-1)).length = q.N := by rw [List.length_set, List.length_set]; exact rl
 rw [nextF_is (fun n hn _ => by
  obtain ⟨k, hk, rfl⟩ := rdQ_mem hn
  have := fN k (by omega)
  exact ⟨fit1 (by decide) this, fit1 (by decide) (frac_neg this)⟩), Option.bind_some]
 have nx : ∀ k, k < q.N → rdQ ((((rdR t.rows a).set v 0).set (s.bas a) (-1)).map fun n => if n = 0 then n else 0 - n / s.row a v) k  = Sim.next s a v k := fun k hk => by
  rw [map_getD _ (by omega), g3]
  unfold Sim.next
  by_cases e : k = s.bas a
  ·have e0 : ¬ ((-1 : Rat) = 0) := by decide
   rw [if_pos e, if_neg e0, if_neg (fun e' => hne (e.symm.trans e')), if_pos e]; grind
  ·rw [if_neg e, if_neg e]
   by_cases e2 : k = v
   ·rw [if_pos e2, if_pos rfl, if_pos e2]
   ·rw [if_neg e2, if_neg e2, h.row a k ha hk]
    split
    ·rename_i e3; rw [e3]; grind
    ·grind
 have fnx : ∀ k, k < q.N → Frac E 4374 (Sim.next s a v k) := fun k hk => by
  rw [← nx k hk, map_getD _ (by omega)]
  have h1 := fN k hk
  split
  ·rename_i e3; rw [e3]; exact ⟨0, by show (0 : Rat) * _ = 0; grind, by decide⟩
  ·exact frac_neg h1
 generalize hnx : (((rdR t.rows a).set v 0).set (s.bas a) (-1)).map (fun n => if n = 0 then n else 0 - n / s.row a v) = nxl at *
 have lnx : nxl.length = q.N := by rw [← hnx, List.length_map]; exact ln
 have nvz : Sim.next s a v v = 0 := by unfold next; rw [if_pos rfl]
 obtain ⟨r, r1, r2, r3, r4⟩ := rowsF_is (v := v) (a := a) (nx := nxl) (l := t.rows) (i := 0) lnx hv (fun j hj => h.cl j (by rw [← h.rl]; exact hj)) (fun j hj hja _ k hk _ => by
  have hjm : j < q.m := by rw [← h.rl]; exact hj
  rw [h.row j v hjm hv, h.row j k hjm hk, nx k hk]
  have fP := frac_mul (fr j v hjm hv) (fnx k hk)
  refine ⟨fit2 (by decide) fP, ?_⟩
  by_cases e : k = v
  ·rw [if_pos e]
   have f0 : Frac (D * E) 0 (0 : Rat) := ⟨0, by show (0 : Rat) * _ = 0; grind, by decide⟩
   exact fit2 (B := 0 + 4374 * 4374) (by decide) (f0.add fP)
  ·rw [if_neg e]
   exact fit2 (B := 4374 * 4374 + 4374 * 4374) (by decide) ((frac_up (fr j k hjm hk) hEl).add fP))
 rw [r1, Option.bind_some]
 refine ⟨_, rfl, ?_, ?_, ?_, ?_, h.ll, ?_, ?_, ?_, h.lim⟩
 ·show (t.basic.set a v).length = _; rw [List.length_set]; exact h.bl
 ·show (r.set a nxl).length = _; rw [List.length_set, r2]; exact h.rl
 ·intro i hi'
  show (rdR (r.set a nxl) i).length = _
  rw [rdR_set (by rw [r2, h.rl]; exact ha)]
  by_cases e : i = a
  ·rw [if_pos e]; exact lnx
  ·rw [if_neg e]; exact r3 i (by rw [h.rl]; exact hi')
 ·exact u2
 ·intro i hi'
  show rdN (t.basic.set a v) i = _
  rw [rdN_set (by rw [h.bl]; exact ha), h.bas i hi']
  rfl
 ·intro i k hi' hk
  show rdQ (rdR (r.set a nxl) i) k = _
  rw [rdR_set (by rw [r2, h.rl]; exact ha)]
  simp only [Sim.step]
  by_cases e : i = a
  ·rw [if_pos e, if_pos e]; exact nx k hk
  ·rw [if_neg e, if_neg e, r4 i k (by rw [h.rl]; exact hi') (by omega) hk (by rw [nx v hv]; exact nvz), h.row i k hi' hk, h.row i v hi' hv, nx k hk]
 ·intro k hk
  show rdQ val' k = _
  by_cases hb : Basic q s k
  ·obtain ⟨i, hi', rfl⟩ := hb
   by_cases e : i = a
   ·subst e
    rw [u4 (s.bas i) (fun j _ hj hja => bna j hj hja), g2, if_neg hne, if_pos rfl, v1]
   ·rw [u3 i (Nat.zero_le _) hi' e, g2, if_neg (bne i hi'), if_neg (bna i hi' e), h.val _ hk, v3 i hi' e]
  ·rw [u4 k (fun j _ hj _ e => hb ⟨j, hj, e⟩), g2]
   by_cases e : k = v
   ·rw [if_pos e, e, v2]
   ·rw [if_neg e, if_neg (fun e' => hb ⟨a, ha, e'.symm⟩), h.val k hk, v4 k e hb]
end Go.Proofs.YtbpjnkeilhfajaaGreat.Lin
end

section
/- Plain: linear.Solve's loop; on small rows it ends, with a point or with weights. -/
namespace Go.Proofs
theorem Z180 {p : Prop} (h : p := by unfold Qu.N; omega) : p := h
end Go.Proofs
namespace Go.Proofs.YtbpjnkeilhfajaaGreat.Lin
open Go.RowKit Go.Proofs.YtbpjnkeilhfajaaGreat.Given Go.Proofs.YtbpjnkeilhfajaaGreat.Num Go.Proofs.YtbpjnkeilhfajaaGreat.Sim
set_option linter.unusedVariables false
set_option linter.unusedSimpArgs false
def wrow (vars : Nat) (row : List Rat) : Nat → Nat → Option (List Rat)
 | 0, _ => some []
 | d + 1, j => (okQ (0 - rdQ row (vars + j))).bind fun x => (wrow vars row d (j + 1)).bind fun l => some (x :: l)
def leastF : List Rat → Int → Option Int
 | [], n => some n
 | x :: l, n => (okI (Int.gcd n x.den)).bind fun g => (okI (n * ((x.den : Int) / g))).bind fun n' => leastF l n'
def wholeF (n : Int) : List Rat → Option (List Int)
 | [] => some []
 | x :: l => (okI (x.num * (n / (x.den : Int)))).bind fun z => (wholeF n l).bind fun r => some (z :: r)
def weights (vars : Nat) (t : Tab) (a : Nat) : Option (List Int) :=
 (wrow vars (rdR t.rows a) t.limits.length 0).bind fun l => (leastF (l.set (rdN t.basic a - vars) 1) 1).bind fun n => wholeF n (l.set (rdN t.basic a - vars) 1)
def loop (vars : Nat) : Nat → Tab → Option (Int × List Rat × List Int)
 | f, t => match wrong vars t with
  | none => some (1, t.value.take vars, [])
  | some a => match helps vars t a with
   | none => (weights vars t a).map fun w => (2, [], w)
   | some v => match f with
    | 0 => some (0, [], [])
    | f + 1 => (exchange vars t a v).bind (loop vars f)
theorem okI_in {x : Int} (h : x.natAbs < 9223372036854775808) : okI x = some x := if_pos (by unfold In64; omega)
theorem wrow_is {vars : Nat} {row : List Rat} : ∀ (d j : Nat), (∀ k, j ≤ k → k < j + d → Fit (0 - rdQ row (vars + k))) → ∃ l, wrow vars row d j = some l ∧ l.length = d ∧ ∀ k, k < d → rdQ l k = 0 - rdQ row (vars + (j + k))
 | 0, j, _ => ⟨[], rfl, rfl, fun k hk => by omega⟩
 | d + 1, j, h => by
  obtain ⟨l, e1, e2, e3⟩ := wrow_is d (j + 1) (fun k h1 h2 => h k (by omega) (by omega))
  refine ⟨(0 - rdQ row (vars + j)) :: l, by rw [wrow, okQ_fit (h j (by omega) (by omega)), Option.bind_some, e1]; rfl, by simp [e2], fun k hk => ?_⟩
  cases k with
  | zero => rfl
  | succ k => show rdQ l k = _; rw [e3 k (by omega), show j + 1 + k = j + (k + 1) by omega]
theorem leastF_is {M : Nat} (hM : M ≤ 4374) (hM0 : 0 < M) : ∀ (l : List Rat) (n : Nat), 0 < n → n ∣ M → (∀ x, x ∈ l → x.den ∣ M) → ∃ n' : Nat, leastF l (n : Int) = some (n' : Int) ∧ 0 < n' ∧ n' ∣ M ∧ n ∣ n' ∧ ∀ x, x ∈ l → x.den ∣ n'
 | [], n, h0, hn, _ => ⟨n, rfl, h0, hn, Nat.dvd_refl _, fun x hx => by cases hx⟩
 | x :: l, n, h0, hn, hl => by
  have hx := hl x (by simp)
  have hg0 : 0 < Nat.gcd n x.den := Nat.gcd_pos_of_pos_left _ h0
  have e1 : n * (x.den / Nat.gcd n x.den) = Nat.lcm n x.den := by
   unfold Nat.lcm
   rw [Nat.mul_div_assoc _ (Nat.gcd_dvd_right n x.den)]
  have hd : Nat.lcm n x.den ∣ M := Nat.lcm_dvd hn hx
  have hp : 0 < Nat.lcm n x.den := Nat.lcm_pos h0 x.den_pos
  have hle := Nat.le_of_dvd hM0 hd
  have hgle : Nat.gcd n x.den ≤ n := Nat.le_of_dvd h0 (Nat.gcd_dvd_left _ _)
  have hnM := Nat.le_of_dvd hM0 hn
  obtain ⟨n', a1, a2, a3, a4, a5⟩ := leastF_is hM hM0 l (Nat.lcm n x.den) hp hd (fun y hy => hl y (by simp [hy]))
  refine ⟨n', ?_, a2, a3, Nat.dvd_trans (Nat.dvd_lcm_left _ _) a4, fun y hy => ?_⟩
  ·rw [leastF]
   have eg : (Int.gcd (n : Int) (x.den : Int) : Int) = ((Nat.gcd n x.den : Nat) : Int) := by unfold Int.gcd; simp
   rw [eg, okI_in (by omega), Option.bind_some]
   have ed : (n : Int) * ((x.den : Int) / ((Nat.gcd n x.den : Nat) : Int)) = ((Nat.lcm n x.den : Nat) : Int) := by
    rw [← e1, Int.natCast_mul, Int.natCast_ediv]
   rw [ed, okI_in (by omega), Option.bind_some]
   exact a1
  ·rcases List.mem_cons.1 hy with rfl | hy
   ·exact Nat.dvd_trans (Nat.dvd_lcm_right _ _) a4
   ·exact a5 y hy
theorem whole_q {x : Rat} {n : Nat} (h : x.den ∣ n) : ((x.num * ((n : Int) / (x.den : Int)) : Int) : Rat) = x * (n : Int) := by
 obtain ⟨k, rfl⟩ := h
 have h0 := ne_den x
 have : ((x.den * k : Nat) : Int) / (x.den : Int) = (k : Int) := by rw [Int.natCast_mul]; exact Int.mul_ediv_cancel_left _ h0
 rw [this, Rat.intCast_mul, ← num_eq x, Int.natCast_mul, Rat.intCast_mul]; grind
theorem wholeF_is {n : Nat} (hn : n ≤ 4374) : ∀ (l : List Rat), (∀ x, x ∈ l → x.den ∣ n ∧ x.num.natAbs ≤ 4374) → ∃ w, wholeF (n : Int) l = some w ∧ w.length = l.length ∧ ∀ k, k < l.length → ((w.getD k 0 : Int) : Rat) = rdQ l k * (n : Int) ∧ (w.getD k 0).natAbs ≤ 19131876
 | [], _ => ⟨[], rfl, rfl, fun k hk => by simp at hk⟩
 | x :: l, h => by
  obtain ⟨w, a1, a2, a3⟩ := wholeF_is hn l (fun y hy => h y (by simp [hy]))
  obtain ⟨hx, hb⟩ := h x (by simp)
  have hq : ((n : Int) / (x.den : Int)).natAbs ≤ 4374 := by
   have : (n : Int) / (x.den : Int) = ((n / x.den : Nat) : Int) := by rw [Int.natCast_ediv]
   rw [this, Int.natAbs_natCast]
   exact Nat.le_trans (Nat.div_le_self _ _) hn
  have hm := abs_mul_le hb hq
  refine ⟨x.num * ((n : Int) / (x.den : Int)) :: w, by rw [wholeF, okI_in (by omega), Option.bind_some, a1]; rfl, by simp [a2], fun k hk => ?_⟩
  cases k with
  | zero => exact ⟨whole_q hx, hm⟩
  | succ k => exact a3 k (by simpa using hk)
theorem weights_is {q : Qu} {c : Nat → Nat → Int} {t : Tab} {s : St} (h : Rep q t s) (hi : Inv q s) (hs : Small q c) {a : Nat} (hw : Wrong q s a) :
  ∃ w : List Int, ∃ n : Nat, weights q.n t a = some w ∧ w.length = q.m ∧ 0 < n ∧ ∀ j, j < q.m → ((w.getD j 0 : Int) : Rat) = wgt q s a j * (n : Int) ∧ (w.getD j 0).natAbs ≤ 19131876 := by
 have ha := hw.1
 have hD := dt_ne hi hs
 have hDl := dt_le hs s
 have hwN := hi.lt a ha
 have fr : ∀ k, k < q.N → Frac (dt q c s) 4374 (s.row a k) := fun k h2 => row_frac hi hs ha h2
 obtain ⟨l, w1, w2, w3⟩ := wrow_is (vars := q.n) (row := rdR t.rows a) q.m 0 (fun k _ hk => by
  rw [h.row a (q.n + k) ha Z180]
  exact frac_fit hD (by omega) (by decide) (frac_neg (fr (q.n + k) Z180)))
 have hb : s.bas a - q.n < q.m := by unfold Qu.N at hwN; omega
 have hg : ∀ j, j < q.m → rdQ (l.set (s.bas a - q.n) 1) j = wgt q s a j := fun j hj => by
  rw [rdQ_set (by omega), w3 j hj, Nat.zero_add, h.row a (q.n + j) ha Z180]
  unfold wgt
  have := hw.2.1
  by_cases e : j = s.bas a - q.n
  ·rw [if_pos e, if_pos (by omega)]
  ·rw [if_neg e, if_neg (by omega)]; grind
 have hfr : ∀ x, x ∈ l.set (s.bas a - q.n) 1 → Frac (dt q c s) 4374 x := fun x hx => by
  obtain ⟨j, hj, rfl⟩ := rdQ_mem hx
  rw [List.length_set] at hj
  rw [hg j (by omega)]
  unfold wgt
  split
  ·exact ⟨dt q c s, by show (1 : Rat) * _ = _; grind, hDl⟩
  ·have := frac_neg (fr (q.n + j) Z180)
   rwa [show (0 : Rat) - s.row a (q.n + j) = -s.row a (q.n + j) by grind] at this
 have hM0 : 0 < (dt q c s).natAbs := by omega
 obtain ⟨n, n1, n2, n3, -, n5⟩ := leastF_is hDl hM0 (l.set (s.bas a - q.n) 1) 1 (by decide) (Nat.one_dvd _) (fun x hx => ((hfr x hx).parts hD).1)
 have hn : n ≤ 4374 := Nat.le_trans (Nat.le_of_dvd hM0 n3) hDl
 obtain ⟨w, a1, a2, a3⟩ := wholeF_is hn (l.set (s.bas a - q.n) 1) (fun x hx => ⟨n5 x hx, ((hfr x hx).parts hD).2⟩)
 rw [List.length_set, w2] at a2 a3
 refine ⟨w, n, ?_, a2, n2, fun j hj => ?_⟩
 ·unfold weights
  rw [h.ll, w1, Option.bind_some, h.bas a ha]
  have : ((1 : Nat) : Int) = 1 := rfl
  rw [this] at n1
  rw [n1, Option.bind_some]
  exact a1
 ·rw [← hg j hj]; exact a3 j hj
def Ends (q : Qu) (r : Option (Int × List Rat × List Int)) : Prop :=
 (∃ p : List Rat, r = some (1, p, []) ∧ p.length = q.n ∧ (∃ D : Int, D ≠ 0 ∧ D.natAbs ≤ 4374 ∧ ∀ k, k < q.n → Frac D 118098 (rdQ p k)) ∧ ∀ j, j < q.m → sumN q.n (fun k => q.C j k * rdQ p k) ≤ q.lim (q.n + j)) ∨
 (∃ w : List Int, r = some (2, [], w) ∧ w.length = q.m ∧ (∀ j, j < q.m → 0 ≤ w.getD j 0 ∧ (w.getD j 0).natAbs ≤ 19131876) ∧ (∀ k, k < q.n → sumN q.m (fun j => ((w.getD j 0 : Int) : Rat) * q.C j k) = 0) ∧ sumN q.m (fun j => ((w.getD j 0 : Int) : Rat) * q.lim (q.n + j)) < 0)
theorem loop_ends {q : Qu} {c : Nat → Nat → Int} {l : Nat → Int} (hs : Small q c) (hl : Lim q l) : ∀ (f : Nat) {t : Tab} {S : Nat → St} {a v : Nat → Nat} {K : Nat}, Run q S a v K → Rep q t (S K) → cnt q.N q.n ≤ f + K + 1 → Ends q (loop q.n f t) := by
 intro f
 induction f with
 | zero =>
  intro t S a v K hr ht hf
  rw [loop]
  have hi := hr.inv K (Nat.le_refl _)
  have hw := wrong_spec ht hi
  cases e : wrong q.n t with
  | none =>
   rw [e] at hw
   exact .inl (yes_of hi hs hl ht hw)
  | some i =>
   rw [e] at hw
   have hh := helps_spec ht hw.1
   simp only
   cases e2 : helps q.n t i with
   | none =>
    rw [e2] at hh
    exact .inr (no_of hi hs ht hw hh)
   | some u =>
    rw [e2] at hh
    obtain ⟨S', a', v', hr', -⟩ := hr.snoc hw hh
    have := hr'.short
    omega
 | succ f ih =>
  intro t S a v K hr ht hf
  rw [loop]
  have hi := hr.inv K (Nat.le_refl _)
  have hw := wrong_spec ht hi
  cases e : wrong q.n t with
  | none =>
   rw [e] at hw
   exact .inl (yes_of hi hs hl ht hw)
  | some i =>
   rw [e] at hw
   have hh := helps_spec ht hw.1
   simp only
   cases e2 : helps q.n t i with
   | none =>
    rw [e2] at hh
    exact .inr (no_of hi hs ht hw hh)
   | some u =>
    rw [e2] at hh
    obtain ⟨S', a', v', hr', he⟩ := hr.snoc hw hh
    obtain ⟨t', x1, x2⟩ := exch_sim ht hi hs hl hw hh
    simp only [x1, Option.bind_some]
    rw [← he] at x2
    exact ih hr' x2 (by omega)
where
 yes_of {q : Qu} {c : Nat → Nat → Int} {l : Nat → Int} {t : Tab} {s : St} (hi : Inv q s) (hs : Small q c) (hl : Lim q l) (ht : Rep q t s) (hw : ∀ j, j < q.m → q.n ≤ s.bas j → ¬ q.lim (s.bas j) < s.val (s.bas j)) :
   ∃ p : List Rat, some ((1 : Int), t.value.take q.n, ([] : List Int)) = some (1, p, []) ∧ p.length = q.n ∧ (∃ D : Int, D ≠ 0 ∧ D.natAbs ≤ 4374 ∧ ∀ k, k < q.n → Frac D 118098 (rdQ p k)) ∧ ∀ j, j < q.m → sumN q.n (fun k => q.C j k * rdQ p k) ≤ q.lim (q.n + j) := by
  have hp : ∀ k, k < q.n → rdQ (t.value.take q.n) k = s.val k := fun k hk => by
   rw [← ht.val k Z180]
   unfold rdQ
   rw [List.getD_eq_getElem?_getD, List.getD_eq_getElem?_getD, List.getElem?_take_of_lt hk]
  refine ⟨_, rfl, by rw [List.length_take, ht.vl]; unfold Qu.N; omega, ⟨dt q c s, dt_ne hi hs, dt_le hs s, fun k hk => ?_⟩, fun j hj => ?_⟩
  ·rw [hp k hk]; exact val_frac hi hs hl.is hl.small Z180
  ·rw [sumN_congr (g := fun k => q.C j k * s.val k) (fun k hk => by rw [hp k hk])]
   exact done_yes hi hw j hj
 no_of {q : Qu} {c : Nat → Nat → Int} {t : Tab} {s : St} {i : Nat} (hi : Inv q s) (hs : Small q c) (ht : Rep q t s) (hw : Wrong q s i) (hg : ∀ u, u < q.N → ¬ Sim.Good q s i u) :
   ∃ w : List Int, (weights q.n t i).map (fun w => ((2 : Int), ([] : List Rat), w)) = some (2, [], w) ∧ w.length = q.m ∧ (∀ j, j < q.m → 0 ≤ w.getD j 0 ∧ (w.getD j 0).natAbs ≤ 19131876) ∧ (∀ k, k < q.n → sumN q.m (fun j => ((w.getD j 0 : Int) : Rat) * q.C j k) = 0) ∧ sumN q.m (fun j => ((w.getD j 0 : Int) : Rat) * q.lim (q.n + j)) < 0 := by
  obtain ⟨w, n, w1, w2, n0, w3⟩ := weights_is ht hi hs hw
  obtain ⟨y1, y2, y3⟩ := done_no hi hw hg
  have hn : (0 : Rat) < ((n : Int) : Rat) := by have := Rat.intCast_lt_intCast.2 (show (0 : Int) < (n : Int) by omega); exact this
  refine ⟨w, by rw [w1]; rfl, w2, fun j hj => ⟨?_, (w3 j hj).2⟩, fun k hk => ?_, ?_⟩
  ·have h1 := Rat.mul_nonneg (y1 j hj) (show (0 : Rat) ≤ ((n : Int) : Rat) by grind)
   rw [← (w3 j hj).1] at h1
   have h2 : ((0 : Int) : Rat) ≤ ((w.getD j 0 : Int) : Rat) := h1
   exact Rat.intCast_le_intCast.1 h2
  ·rw [sumN_congr (g := fun j => ((n : Int) : Rat) * (wgt q s i j * q.C j k)) (fun j hj => by rw [(w3 j hj).1]; grind), sumN_mul, y2 k hk]; grind
  ·rw [sumN_congr (g := fun j => ((n : Int) : Rat) * (wgt q s i j * q.lim (q.n + j))) (fun j hj => by rw [(w3 j hj).1]; grind), sumN_mul]
   have := Rat.mul_pos hn (show (0 : Rat) < -sumN q.m (fun j => wgt q s i j * q.lim (q.n + j)) by grind)
   grind
end Go.Proofs.YtbpjnkeilhfajaaGreat.Lin
end

section
/- Plain: linear.CheckPoint and linear.CheckFarkas; there is not both; linear.Solve. -/
namespace Go.Proofs.YtbpjnkeilhfajaaGreat.Lin
open Go.RowKit Go.Proofs.YtbpjnkeilhfajaaGreat.Given Go.Proofs.YtbpjnkeilhfajaaGreat.Num Go.Proofs.YtbpjnkeilhfajaaGreat.Sim
set_option linter.unusedVariables false
set_option linter.unusedSimpArgs false
abbrev RowZ := List Int × Int
def holdF : List Int → List Rat → Rat → Option Rat
 | c :: cs, x :: xs, s => (okQ ((c : Rat) * x)).bind fun y => (okQ (s + y)).bind fun z => holdF cs xs z
 | _, _, s => some s
def checkRow (r : RowZ) (p : List Rat) : Bool := decide (r.1.length = p.length) && match holdF r.1 p (r.2 : Rat) with
 | some s => decide (s ≤ 0)
 | none => false
def checkPoint (rows : List RowZ) (p : List Rat) : Bool := rows.all (checkRow · p)
def weighF : List Int → List Int → Int → Option Int
 | w :: ws, c :: cs, s => (okI (w * c)).bind fun y => (okI (s + y)).bind fun z => weighF ws cs z
 | _, _, s => some s
def colZ (rows : List RowZ) (k : Nat) : List Int := rows.map fun r => r.1.getD k 0
def kZ (rows : List RowZ) : List Int := rows.map fun r => r.2
def widthZ (rows : List RowZ) : Nat := match rows with
 | [] => 0
 | r :: _ => r.1.length
def checkFarkas (rows : List RowZ) (w : List Int) : Bool :=
 decide (rows.length = w.length) && w.all (fun x => decide (0 ≤ x)) && decide (rows ≠ []) && rows.all (fun r => decide (r.1.length = widthZ rows)) &&
 (List.range (widthZ rows)).all (fun k => weighF w (colZ rows k) 0 == some 0) && match weighF w (kZ rows) 0 with
 | some s => decide (0 < s)
 | none => false
theorem okQ_some {x y : Rat} (h : okQ x = some y) : y = x := by
 unfold okQ at h
 split at h
 ·exact (Option.some.inj h).symm
 ·cases h
theorem okI_some {x y : Int} (h : okI x = some y) : y = x := by
 unfold okI at h
 split at h
 ·exact (Option.some.inj h).symm
 ·cases h
theorem sumN_shift (f : Nat → Rat) (n : Nat) : sumN (n + 1) f = f 0 + sumN n (fun k => f (k + 1)) := by
 induction n with
 | zero => rw [sumN, sumN, sumN]; grind
 | succ n ih => rw [sumN, ih, sumN]; grind
theorem holdF_some : ∀ {cs : List Int} {xs : List Rat} {s r : Rat}, cs.length = xs.length → holdF cs xs s = some r → r = s + sumN cs.length (fun k => ((cs.getD k 0 : Int) : Rat) * rdQ xs k)
 | [], [], s, r, _, h => by rw [show holdF [] [] s = some s from rfl] at h; rw [← Option.some.inj h]; simp [sumN]; grind
 | [], x :: xs, s, r, hl, h => by simp at hl
 | c :: cs, [], s, r, hl, h => by simp at hl
 | c :: cs, x :: xs, s, r, hl, h => by
  rw [holdF] at h
  obtain ⟨y, h1, h⟩ := Option.bind_eq_some_iff.1 h
  obtain ⟨z, h2, h⟩ := Option.bind_eq_some_iff.1 h
  have ih := holdF_some (by simpa using hl) h
  rw [okQ_some h1] at h2
  rw [okQ_some h2] at ih
  rw [ih, List.length_cons, sumN_shift]
  show _ = s + ((c : Rat) * x + _)
  have : ∀ k, (((c :: cs).getD (k + 1) 0 : Int) : Rat) * rdQ (x :: xs) (k + 1) = ((cs.getD k 0 : Int) : Rat) * rdQ xs k := fun k => rfl
  simp only [this]; grind
theorem weighF_some : ∀ {ws cs : List Int} {s r : Int}, ws.length = cs.length → weighF ws cs s = some r → (r : Rat) = (s : Rat) + sumN ws.length (fun k => ((ws.getD k 0 : Int) : Rat) * ((cs.getD k 0 : Int) : Rat))
 | [], [], s, r, _, h => by rw [show weighF [] [] s = some s from rfl] at h; rw [← Option.some.inj h]; simp [sumN]; grind
 | [], x :: xs, s, r, hl, h => by simp at hl
 | c :: cs, [], s, r, hl, h => by simp at hl
 | c :: cs, x :: xs, s, r, hl, h => by
  rw [weighF] at h
  obtain ⟨y, h1, h⟩ := Option.bind_eq_some_iff.1 h
  obtain ⟨z, h2, h⟩ := Option.bind_eq_some_iff.1 h
  have ih := weighF_some (by simpa using hl) h
  rw [okI_some h1] at h2
  rw [okI_some h2, Rat.intCast_add, Rat.intCast_mul] at ih
  rw [ih, List.length_cons, sumN_shift]
  show _ = (s : Rat) + ((c : Rat) * (x : Rat) + _)
  have : ∀ k, (((c :: cs).getD (k + 1) 0 : Int) : Rat) * (((x :: xs).getD (k + 1) 0 : Int) : Rat) = ((cs.getD k 0 : Int) : Rat) * ((xs.getD k 0 : Int) : Rat) := fun k => rfl
  simp only [this]; grind
def cz (rows : List RowZ) (j k : Nat) : Int := (rows.getD j ([], 0)).1.getD k 0
def kz (rows : List RowZ) (j : Nat) : Int := (rows.getD j ([], 0)).2
theorem colZ_get (rows : List RowZ) {j : Nat} (k : Nat) (h : j < rows.length) : (colZ rows k).getD j 0 = cz rows j k := by
 unfold colZ cz; simp [List.getElem?_eq_getElem h]
theorem kZ_get (rows : List RowZ) {j : Nat} (h : j < rows.length) : (kZ rows).getD j 0 = kz rows j := by
 unfold kZ kz; simp [List.getElem?_eq_getElem h]
theorem point_true {rows : List RowZ} {p : List Rat} (h : checkPoint rows p = true) : ∀ j, j < rows.length → (rows.getD j ([], 0)).1.length = p.length ∧ (kz rows j : Rat) + sumN p.length (fun k => (cz rows j k : Rat) * rdQ p k) ≤ 0 := by
 intro j hj
 unfold checkPoint at h
 have h1 := List.all_eq_true.1 h rows[j] (List.getElem_mem hj)
 unfold checkRow at h1
 rw [Bool.and_eq_true, decide_eq_true_eq] at h1
 obtain ⟨h1, h2⟩ := h1
 have e : rows.getD j ([], 0) = rows[j] := by simp [List.getElem?_eq_getElem hj]
 unfold kz cz
 rw [e]
 refine ⟨h1, ?_⟩
 cases hh : holdF rows[j].1 p (rows[j].2 : Rat) with
 | none => rw [hh] at h2; cases h2
 | some r =>
  rw [hh] at h2
  have := holdF_some h1 hh
  rw [h1] at this
  rw [← this]
  simpa using h2
theorem farkas_true {rows : List RowZ} {w : List Int} (h : checkFarkas rows w = true) :
  rows ≠ [] ∧ w.length = rows.length ∧ (∀ j, j < rows.length → 0 ≤ w.getD j 0 ∧ (rows.getD j ([], 0)).1.length = widthZ rows) ∧ (∀ k, k < widthZ rows → sumN rows.length (fun j => ((w.getD j 0 : Int) : Rat) * (cz rows j k : Rat)) = 0) ∧ 0 < sumN rows.length (fun j => ((w.getD j 0 : Int) : Rat) * (kz rows j : Rat)) := by
 unfold checkFarkas at h
 simp only [Bool.and_eq_true, decide_eq_true_eq, List.all_eq_true, List.mem_range, beq_iff_eq] at h
 obtain ⟨⟨⟨⟨⟨h1, h2⟩, h3⟩, h4⟩, h5⟩, h6⟩ := h
 refine ⟨h3, h1.symm, fun j hj => ⟨?_, ?_⟩, fun k hk => ?_, ?_⟩
 ·have hj' : j < w.length := by omega
  have := h2 w[j] (List.getElem_mem hj')
  simpa [List.getElem?_eq_getElem hj'] using this
 ·have := h4 rows[j] (List.getElem_mem hj)
  simpa [List.getElem?_eq_getElem hj] using this
 ·have := weighF_some (by unfold colZ; rw [List.length_map]; exact h1.symm) (h5 k hk)
  rw [← h1] at this
  rw [sumN_congr (g := fun j => ((w.getD j 0 : Int) : Rat) * (((colZ rows k).getD j 0 : Int) : Rat)) (fun j hj => by rw [colZ_get rows k hj])]
  have z : ((0 : Int) : Rat) = 0 := rfl
  rw [z] at this
  grind
 ·cases hh : weighF w (kZ rows) 0 with
  | none => rw [hh] at h6; cases h6
  | some r =>
   rw [hh] at h6
   have h6 : 0 < r := by simpa using h6
   have := weighF_some (by unfold kZ; rw [List.length_map]; exact h1.symm) hh
   rw [← h1] at this
   rw [sumN_congr (g := fun j => ((w.getD j 0 : Int) : Rat) * (((kZ rows).getD j 0 : Int) : Rat)) (fun j hj => by rw [kZ_get rows hj])]
   have z : ((0 : Int) : Rat) = 0 := rfl
   rw [z] at this
   have h7 : ((0 : Int) : Rat) < (r : Rat) := Rat.intCast_lt_intCast.2 h6
   rw [z] at h7
   grind
theorem holdF_is {D : Int} (hD : D ≠ 0) (hDl : D.natAbs ≤ 4374) : ∀ {cs : List Int} {xs : List Rat} {s : Rat} {B : Nat}, cs.length = xs.length → (∀ c, c ∈ cs → c.natAbs ≤ 9) → (∀ x, x ∈ xs → Frac D 118098 x) → Frac D B s → B + cs.length * 1062882 < 9000000000 → ∃ r, holdF cs xs s = some r
 | [], [], s, B, _, _, _, _, _ => ⟨s, rfl⟩
 | [], x :: xs, s, B, hl, _, _, _, _ => by simp at hl
 | c :: cs, [], s, B, hl, _, _, _, _ => by simp at hl
 | c :: cs, x :: xs, s, B, hl, hc, hx, hs, hB => by
  rw [List.length_cons, Nat.add_mul, Nat.one_mul] at hB
  have big : D.natAbs < 9223372036854775808 := Nat.lt_of_le_of_lt hDl (by decide)
  have b2 : B + 1062882 < 9223372036854775808 := Nat.lt_of_le_of_lt (Nat.add_le_add_left (Nat.le_add_left 1062882 _) B) (Nat.lt_trans hB (by decide))
  have b3 : B + 1062882 + cs.length * 1062882 < 9000000000 := by rw [Nat.add_assoc, Nat.add_comm 1062882]; exact hB
  have b1 : 1062882 < 9223372036854775808 := by decide
  have f1 : Frac D 1062882 (x * (c : Rat)) := ((hx x (by simp)).mul (hc c (by simp))).mono (Nat.le_of_eq rfl)
  have f1' : Frac D 1062882 ((c : Rat) * x) := by rwa [show x * (c : Rat) = (c : Rat) * x by grind] at f1
  have f2 := hs.add f1'
  rw [holdF, okQ_fit (frac_fit hD big b1 f1'), Option.bind_some, okQ_fit (frac_fit hD big b2 f2), Option.bind_some]
  exact holdF_is hD hDl (by simpa using hl) (fun y hy => hc y (by simp [hy])) (fun y hy => hx y (by simp [hy])) f2 b3
theorem weighF_is : ∀ {ws cs : List Int} {s : Int} {B : Nat}, ws.length = cs.length → (∀ c, c ∈ cs → c.natAbs ≤ 9) → (∀ x, x ∈ ws → x.natAbs ≤ 19131876) → s.natAbs ≤ B → B + ws.length * 172186884 < 9000000000000 → ∃ r, weighF ws cs s = some r
 | [], [], s, B, _, _, _, _, _ => ⟨s, rfl⟩
 | [], x :: xs, s, B, hl, _, _, _, _ => by simp at hl
 | c :: cs, [], s, B, hl, _, _, _, _ => by simp at hl
 | w :: ws, c :: cs, s, B, hl, hc, hx, hs, hB => by
  rw [List.length_cons, Nat.add_mul, Nat.one_mul] at hB
  have f1 : (w * c).natAbs ≤ 172186884 := abs_mul_le (hx w (by simp)) (hc c (by simp))
  have f2 := abs_add_le hs f1
  have b2 : B + 172186884 < 9223372036854775808 := Nat.lt_of_le_of_lt (Nat.add_le_add_left (Nat.le_add_left 172186884 _) B) (Nat.lt_trans hB (by decide))
  have b3 : B + 172186884 + ws.length * 172186884 < 9000000000000 := by rw [Nat.add_assoc, Nat.add_comm 172186884]; exact hB
  rw [weighF, okI_in (Nat.lt_of_le_of_lt f1 (by decide)), Option.bind_some, okI_in (Nat.lt_of_le_of_lt f2 b2), Option.bind_some]
  exact weighF_is (by simpa using hl) (fun y hy => hc y (by simp [hy])) (fun y hy => hx y (by simp [hy])) f2 b3
end Go.Proofs.YtbpjnkeilhfajaaGreat.Lin
end
