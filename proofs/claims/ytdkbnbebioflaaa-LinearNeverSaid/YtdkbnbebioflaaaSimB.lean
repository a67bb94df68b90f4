/- Plain: the simplex that takes the least one comes to no basis twice (Bland). -/
import Derived.Test.YtdkbnbebioflaaaSimA
namespace Go.Proofs.Ytdkbnbebioflaaa.Sim
set_option linter.unusedVariables false
set_option linter.unusedSimpArgs false

theorem sumN_nonneg {f : Nat → Rat} : ∀ {n : Nat}, (∀ k, k < n → 0 ≤ f k) → 0 ≤ sumN n f
  | 0, _ => by rw [sumN]; grind
  | n + 1, h => by
    rw [sumN]
    have h1 := sumN_nonneg (f := f) (n := n) (fun k hk => h k (by omega))
    have h2 := h n (by omega)
    grind
theorem sumN_pos {f : Nat → Rat} {r : Nat} : ∀ {n : Nat}, (∀ k, k < n → 0 ≤ f k) → r < n → 0 < f r → 0 < sumN n f
  | 0, _, hr, _ => by omega
  | n + 1, h, hr, hp => by
    rw [sumN]
    have h2 := h n (by omega)
    by_cases e : r = n
    · subst e
      have h1 := sumN_nonneg (f := f) (n := r) (fun k hk => h k (by omega))
      grind
    · have h1 := sumN_pos (f := f) (n := n) (fun k hk => h k (by omega)) (by omega) hp
      grind

/-- The least one that is above its limit. -/
def Wrong (q : Qu) (s : St) (i : Nat) : Prop :=
  i < q.m ∧ q.n ≤ s.bas i ∧ q.lim (s.bas i) < s.val (s.bas i) ∧ ∀ j, j < q.m → q.n ≤ s.bas j → q.lim (s.bas j) < s.val (s.bas j) → s.bas i ≤ s.bas j
def Good (q : Qu) (s : St) (i u : Nat) : Prop := 0 < s.row i u ∨ (s.row i u < 0 ∧ (u < q.n ∨ s.val u < q.lim u))
/-- The least one that helps. -/
def Helps (q : Qu) (s : St) (i v : Nat) : Prop := v < q.N ∧ Good q s i v ∧ ∀ u, u < v → ¬ Good q s i u
theorem good_ne {q : Qu} {s : St} {i u : Nat} (h : Good q s i u) : s.row i u ≠ 0 := by
  rcases h with h | h
  · grind
  · have := h.1; grind

/-- A run of exchanges. -/
structure Run (q : Qu) (S : Nat → St) (a v : Nat → Nat) (K : Nat) : Prop where
  first : Inv q (S 0)
  wrong : ∀ k, k < K → Wrong q (S k) (a k)
  helps : ∀ k, k < K → Helps q (S k) (a k) (v k)
  next : ∀ k, k < K → S (k + 1) = step q (S k) (a k) (v k)

theorem Run.inv {q : Qu} {S : Nat → St} {a v : Nat → Nat} {K : Nat} (h : Run q S a v K) : ∀ k, k ≤ K → Inv q (S k)
  | 0, _ => h.first
  | k + 1, hk => by
    rw [h.next k (by omega)]
    have hw := h.wrong k (by omega)
    have hh := h.helps k (by omega)
    exact step_inv (h.inv k (by omega)) hw.1 hh.1 (good_ne hh.2.1) hw.2.1
/-- Who goes. -/
def out (S : Nat → St) (a : Nat → Nat) (k : Nat) : Nat := (S k).bas (a k)
section
variable {q : Qu} {S : Nat → St} {a v : Nat → Nat} {K : Nat}
theorem Run.basic (h : Run q S a v K) {k : Nat} (hk : k < K) (u : Nat) : Basic q (S (k + 1)) u ↔ (u = v k ∨ (Basic q (S k) u ∧ u ≠ out S a k)) := by
  rw [h.next k hk]
  exact step_basic (h.inv k (by omega)) (h.wrong k hk).1 (good_ne (h.helps k hk).2.1) u
theorem Run.enters (h : Run q S a v K) {k : Nat} (hk : k < K) : ¬ Basic q (S k) (v k) := not_basic (h.inv k (by omega)) (h.wrong k hk).1 (good_ne (h.helps k hk).2.1)
theorem Run.leaves (h : Run q S a v K) {k : Nat} (hk : k < K) : Basic q (S k) (out S a k) ∧ ¬ Basic q (S (k + 1)) (out S a k) := by
  have hb : Basic q (S k) (out S a k) := ⟨a k, (h.wrong k hk).1, rfl⟩
  refine ⟨hb, fun hn => ?_⟩
  rcases (h.basic hk _).1 hn with e | e
  · exact h.enters hk (e ▸ hb)
  · exact e.2 rfl
/-- Who does not go stays. -/
theorem Run.stays (h : Run q S a v K) {u i : Nat} : ∀ (d : Nat), i + d ≤ K → (∀ k, i ≤ k → k < i + d → u ≠ out S a k) → Basic q (S i) u → Basic q (S (i + d)) u
  | 0, _, _, hb => hb
  | d + 1, hk, hn, hb => by
    have h1 := h.stays d (by omega) (fun k h1 h2 => hn k h1 (by omega)) hb
    exact (h.basic (k := i + d) (by omega) u).2 (.inr ⟨h1, hn (i + d) (by omega) (by omega)⟩)
/-- Who does not come stays out. -/
theorem Run.away (h : Run q S a v K) {u i : Nat} : ∀ (d : Nat), i + d ≤ K → (∀ k, i ≤ k → k < i + d → u ≠ v k) → ¬ Basic q (S i) u → ¬ Basic q (S (i + d)) u
  | 0, _, _, hb => hb
  | d + 1, hk, hn, hb => by
    have h1 := h.away d (by omega) (fun k h1 h2 => hn k h1 (by omega)) hb
    intro h2
    rcases (h.basic (k := i + d) (by omega) u).1 h2 with e | e
    · exact hn (i + d) (by omega) (by omega) e
    · exact h1 e.1

/-- Who moves between two times. -/
def Moves (S : Nat → St) (a v : Nat → Nat) (i j u : Nat) : Prop := ∃ k, i ≤ k ∧ k < j ∧ (u = v k ∨ u = out S a k)
theorem Run.comes (h : Run q S a v K) {i j : Nat} (hij : i ≤ j) (hj : j ≤ K) (same : ∀ u, Basic q (S i) u ↔ Basic q (S j) u) {u : Nat} (hm : Moves S a v i j u) :
    (∃ k, i ≤ k ∧ k < j ∧ u = v k) ∧ (∃ k, i ≤ k ∧ k < j ∧ u = out S a k) := by
  have enter_leave : (∃ k, i ≤ k ∧ k < j ∧ u = v k) → (∃ k, i ≤ k ∧ k < j ∧ u = out S a k) := by
    rintro ⟨k, h1, h2, rfl⟩
    refine Classical.byContradiction fun hn => ?_
    have hno : ∀ k', i ≤ k' → k' < j → v k ≠ out S a k' := fun k' a1 a2 e => hn ⟨k', a1, a2, e⟩
    have hb : Basic q (S (k + 1)) (v k) := (h.basic (by omega) _).2 (.inl rfl)
    have hbj := h.stays (u := v k) (i := k + 1) (j - (k + 1)) (by omega) (fun k' a1 a2 => hno k' (by omega) (by omega)) hb
    rw [show k + 1 + (j - (k + 1)) = j by omega] at hbj
    have hbi := (same _).2 hbj
    have hbk := h.stays (u := v k) (i := i) (k - i) (by omega) (fun k' a1 a2 => hno k' a1 (by omega)) hbi
    rw [show i + (k - i) = k by omega] at hbk
    exact h.enters (by omega) hbk
  have leave_enter : (∃ k, i ≤ k ∧ k < j ∧ u = out S a k) → (∃ k, i ≤ k ∧ k < j ∧ u = v k) := by
    rintro ⟨k, h1, h2, rfl⟩
    refine Classical.byContradiction fun hn => ?_
    have hno : ∀ k', i ≤ k' → k' < j → out S a k ≠ v k' := fun k' a1 a2 e => hn ⟨k', a1, a2, e⟩
    obtain ⟨hb, hb1⟩ := h.leaves (k := k) (by omega)
    have hbj := h.away (u := out S a k) (i := k + 1) (j - (k + 1)) (by omega) (fun k' a1 a2 => hno k' (by omega) (by omega)) hb1
    rw [show k + 1 + (j - (k + 1)) = j by omega] at hbj
    have hbi : ¬ Basic q (S i) (out S a k) := fun e => hbj ((same _).1 e)
    have hbk := h.away (u := out S a k) (i := i) (k - i) (by omega) (fun k' a1 a2 => hno k' a1 (by omega)) hbi
    rw [show i + (k - i) = k by omega] at hbk
    exact hbk hb
  obtain ⟨k, h1, h2, e | e⟩ := hm
  · exact ⟨⟨k, h1, h2, e⟩, enter_leave ⟨k, h1, h2, e⟩⟩
  · exact ⟨leave_enter ⟨k, h1, h2, e⟩, ⟨k, h1, h2, e⟩⟩
theorem Run.rest (h : Run q S a v K) {i j u : Nat} (hj : j ≤ K) (hn : ¬ Moves S a v i j u) {k l : Nat} (h1 : i ≤ k) (h2 : k ≤ j) (h3 : i ≤ l) (h4 : l ≤ j) (hb : ¬ Basic q (S k) u) : ¬ Basic q (S l) u := by
  have hv : ∀ k', i ≤ k' → k' < j → u ≠ v k' := fun k' a1 a2 e => hn ⟨k', a1, a2, .inl e⟩
  have ho : ∀ k', i ≤ k' → k' < j → u ≠ out S a k' := fun k' a1 a2 e => hn ⟨k', a1, a2, .inr e⟩
  by_cases hkl : k ≤ l
  · have := h.away (u := u) (i := k) (l - k) (by omega) (fun k' a1 a2 => hv k' (by omega) (by omega)) hb
    rwa [show k + (l - k) = l by omega] at this
  · intro hbl
    have := h.stays (u := u) (i := l) (k - l) (by omega) (fun k' a1 a2 => ho k' (by omega) (by omega)) hbl
    rw [show l + (k - l) = k by omega] at this
    exact hb this

theorem greatest {P : Nat → Prop} {B : Nat} (hP : ∃ u, P u) (hb : ∀ u, P u → u < B) : ∃ r, P r ∧ ∀ u, P u → u ≤ r := by
  induction B with
  | zero => obtain ⟨u, hu⟩ := hP; exact absurd (hb u hu) (by omega)
  | succ B ih =>
    by_cases hB : P B
    · exact ⟨B, hB, fun u hu => by have := hb u hu; omega⟩
    · refine ih (fun u hu => ?_)
      have := hb u hu
      by_cases e : u = B
      · exact absurd (e ▸ hu) hB
      · omega

/-- No basis comes twice. -/
theorem Run.bland (h : Run q S a v K) {i j : Nat} (hij : i < j) (hj : j ≤ K) (same : ∀ u, Basic q (S i) u ↔ Basic q (S j) u) : False := by
  have hslack : ∀ u, Moves S a v i j u → q.n ≤ u ∧ u < q.N := fun u hu => by
    obtain ⟨-, k, h1, h2, rfl⟩ := h.comes (by omega) hj same hu
    have hw := h.wrong k (by omega)
    exact ⟨hw.2.1, (h.inv k (by omega)).lt _ hw.1⟩
  obtain ⟨r, hr, hmax⟩ := greatest (P := Moves S a v i j) (B := q.N) ⟨v i, i, Nat.le_refl _, hij, .inl rfl⟩ (fun u hu => (hslack u hu).2)
  obtain ⟨⟨kT, t1, t2, eT⟩, ⟨kS, s1, s2, eS⟩⟩ := h.comes (by omega) hj same hr
  have wS := h.wrong kS (by omega)
  have iS := h.inv kS (by omega)
  have wT := h.wrong kT (by omega)
  have iT := h.inv kT (by omega)
  have hT := h.helps kT (by omega)
  have rn := (hslack r hr).1
  have eS' : (S kS).bas (a kS) = r := eS.symm
  -- who moves is not above its limit where r goes
  have hlow : ∀ u, Moves S a v i j u → u ≠ r → (S kS).val u ≤ q.lim u := fun u hu hne => by
    have hs := hslack u hu
    by_cases hb : Basic q (S kS) u
    · obtain ⟨x, hx, rfl⟩ := hb
      refine Classical.byContradiction fun hnle => ?_
      have hlt : q.lim ((S kS).bas x) < (S kS).val ((S kS).bas x) := by grind
      have hle := wS.2.2.2 x hx hs.1 hlt
      rw [eS'] at hle
      have := hmax _ hu
      omega
    · rw [iS.high u hs.1 hs.2 hb]; grind
  have hup : q.lim r < (S kS).val r := by have := wS.2.2.1; rwa [eS'] at this
  -- where r comes
  have bT : ¬ Basic q (S kT) r := by rw [eT]; exact h.enters (by omega)
  have vT : (S kT).val r = q.lim r := iT.high r rn (hslack r hr).2 bT
  have hpos : 0 < (S kT).row (a kT) r := by
    have hg := hT.2.1
    rw [← eT] at hg
    rcases hg with hg | ⟨-, hg | hg⟩
    · exact hg
    · omega
    · rw [vT] at hg; grind
  have hleast : ∀ u, u < r → ¬ Good q (S kT) (a kT) u := by have := hT.2.2; rwa [← eT] at this
  have dS := (iT.eqv _).2 iS.val (a kT) wT.1
  have dT := (iT.eqv _).2 iT.val (a kT) wT.1
  have hsum : 0 < sumN q.N (fun k => (S kT).row (a kT) k * (S kS).val k + (-1) * ((S kT).row (a kT) k * (S kT).val k)) := by
    refine sumN_pos (r := r) (fun k hk => ?_) (hslack r hr).2 ?_
    · by_cases hb : Basic q (S kT) k
      · obtain ⟨x, hx, rfl⟩ := hb
        rw [iT.zero _ x wT.1 hx]; grind
      · by_cases hkn : k < q.n
        · have hg := hleast k (by omega)
          have h0 : (S kT).row (a kT) k = 0 := by
            refine Classical.byContradiction fun hne => hg ?_
            by_cases hp : 0 < (S kT).row (a kT) k
            · exact .inl hp
            · exact .inr ⟨by grind, .inl hkn⟩
          rw [h0]; grind
        · have hv := iT.high k (by omega) hk hb
          by_cases hkr : k = r
          · subst hkr
            have := Rat.mul_nonneg (a := (S kT).row (a kT) k) (b := (S kS).val k - (S kT).val k) (by grind) (by rw [vT]; grind)
            grind
          · by_cases hlt : k < r
            · have hg := hleast k hlt
              have hneg : (S kT).row (a kT) k ≤ 0 := by
                refine Classical.byContradiction fun hne => hg (.inl (by grind))
              have hle : (S kS).val k ≤ q.lim k := by
                by_cases hm : Moves S a v i j k
                · exact hlow k hm hkr
                · have := h.rest hj hm (k := kT) (l := kS) t1 (by omega) s1 (by omega) hb
                  rw [iS.high k (by omega) hk this]; grind
              have := Rat.mul_nonneg (a := -((S kT).row (a kT) k)) (b := (S kT).val k - (S kS).val k) (by grind) (by rw [hv]; grind)
              grind
            · have hm : ¬ Moves S a v i j k := fun hm => by have := hmax k hm; omega
              have := h.rest hj hm (k := kT) (l := kS) t1 (by omega) s1 (by omega) hb
              rw [iS.high k (by omega) hk this, hv]; grind
    · have := Rat.mul_pos (a := (S kT).row (a kT) r) (b := (S kS).val r - (S kT).val r) hpos (by rw [vT]; grind)
      grind
  rw [sumN_add, sumN_mul] at hsum
  rw [← dS, ← dT] at hsum
  have hl : Moves S a v i j (out S a kT) := ⟨kT, t1, t2, .inr rfl⟩
  have hne : out S a kT ≠ r := fun e => bT (e ▸ (h.leaves (k := kT) (by omega)).1)
  have h1 := hlow _ hl hne
  have h2 : q.lim (out S a kT) < (S kT).val (out S a kT) := wT.2.2.1
  have h3 : (S kT).bas (a kT) = out S a kT := rfl
  rw [h3] at hsum
  grind
end
end Go.Proofs.Ytdkbnbebioflaaa.Sim
