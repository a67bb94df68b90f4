import Derived.Test.YtmcfcmijopbinaaTl
import Derived.Test.YtmcfcmijopbinaaLnS1
import Derived.Test.YtmcfcmijopbinaaWnE
section
/- linear.Solve. -/
namespace Go.Proofs
theorem Zp1w {p q : Prop} (hq : q) (h : p = q := by first | (simp only [Act.put, List.setIfInBounds_toArray, List.set_cons_zero, List.set_cons_succ]; done) | (simp only [Act.put, List.setIfInBounds_toArray, List.set_cons_zero, List.set_cons_succ]; rfl) | rfl) : p := Eq.mpr h hq
theorem Z1w0 {p : Prop} (h : p := by repeat (first | exact Below.refl _ _ | with_reducible assumption | refine Below.alloc ?_ (by first | exact Nat.le_refl _ | (simp; done) | (simp; omega) | omega) _ | refine Below.setCell ?_ (by first | exact Nat.le_refl _ | (simp; done) | (simp; omega) | omega) _ | refine Below.drew ?_ | refine bdrewN ?_ _)) : p := h
theorem Z1w1 {p : Prop} (h : p := by first | exact Nat.le_refl _ | (simp; done) | (simp; omega) | omega) : p := h
theorem Z1w2 {p : Prop} (h : p := by have := HK.out; omega) : p := h
theorem Z1w3 {p : Prop} (h : p := by kernel_rfl) : p := h
theorem Z1w4 {p : Prop} (h : p := by decide +kernel) : p := h
theorem Z1w5 {p : Prop} (h : p := by (intro w_ hSw; simp only [Cells] at hSw; go_simp; all_goals (with_reducible rfl); done)) : p := h
theorem Z1w6 {p : Prop} (h : p := by exact ⟨by simp [go_sem, q3, q4, q5], by simp [go_sem, q3, q4, q5], by simp [go_sem, q3, q4, q5], trivial⟩) : p := h
end Go.Proofs
namespace Go.Proofs.Ytmcfcmijopbinaa.Ln
open Go.RowKit Go.Proofs.Ytmcfcmijopbinaa.Num Go.Proofs.Ytmcfcmijopbinaa.Given Go.Proofs.Ytmcfcmijopbinaa.Lin Go.Proofs.YtmcfcmijopbinaaW.PrintWords
set_option linter.unusedVariables false
set_option linter.unusedSimpArgs false
theorem fits_ok2 (g : Nat) (cap : Array Value) (S : Nat → Prop) (Q : World → Prop) (w : World) (hS : ∀ k, S k → k < w.heap.size) (hcf : ∀ W, (callFunc g cap).run Try.prog W = .ok (.enter g cap) W)
  (h : ∀ W, Below w.heap.size w W → w.heap.size < W.heap.size → Calls Try.prog g cap W fun e W' => e = .returned (.tuple #[]) ∧ Fp S W W' ∧ Q W') :
  Calls Try.prog 25 #[.func (.func g) #[] cap] w fun e w' => e = .returned (.bool true) ∧ Fp S w w' ∧ ∃ W', Q W' ∧ W'.heap.size ≤ w'.heap.size ∧ ∀ k, k < W'.heap.size → k ≠ w.heap.size → w'.heap[k]? = W'.heap[k]? := by
 have hmf := run_makeFunc
 have H := Lib.hid h
 have HS := Lib.hid hS
 clear h hS
 go_enter_defers Try.func25, Try.ntmps25
 go_wp2_with fail
 refine (H.out _ Z1w0 (by simp)).mono ?_
 rintro e w1 ⟨rfl, hb1, hQ⟩
 have hz := hb1.size
 simp at hz
 have hblk : w1.heap[w.heap.size]? = some (.cells #[.bool false] 4 (0, 0)) := by
  rw [hb1.block _ (by simp) (fun hk => by have := HS.out _ hk; omega)]; exact heap_alloc_new w _
 have c2 : w1.cell? ⟨w.heap.size, 0, none⟩ = some (.bool false) := by simp [World.cell?, hblk]
 have f2 : w1.frozen? ⟨w.heap.size, 0, none⟩ = false := by simp [World.frozen?, hblk]
 have hb2 : Fp S w w1 := ((Fp.refl S w).alloc _).tr hb1
 have hb3 := Lib.hid (show Fp S w w1 ∧ Q w1 from ⟨hb2, hQ⟩)
 clear hb1 hb2 hQ hblk
 go_wp2
 refine leaves_cons (f := 43) (args := #[.pointer (some ⟨w.heap.size, 0, none⟩)]) (by simp) (by simp [go_sem]) ?_
 refine (catch_idle _ _).mono ?_
 rintro e u' w'' ⟨rfl, rfl, rfl⟩
 obtain ⟨hb2, hQ⟩ := hb3.out
 have k1 : w.heap.size < w1.heap.size := by omega
 simp [Leaves, settle, results, Try.results25, go_sem, c2, k1]
 exact ⟨hb2.setCell (by simp) _, w1, hQ, by simp, fun k hk hne => Below.heap_setCell _ ⟨w.heap.size, 0, none⟩ _ k hne⟩
theorem fits_no2 (g : Nat) (cap : Array Value) (S : Nat → Prop) (Q : World → Prop) (w : World) (hS : ∀ k, S k → k < w.heap.size) (hcf : ∀ W, (callFunc g cap).run Try.prog W = .ok (.enter g cap) W)
  (h : ∀ W, Below w.heap.size w W → w.heap.size < W.heap.size → Calls Try.prog g cap W fun e W' => e = .panicked LargeL ∧ Fp S W W' ∧ Q W') :
  Calls Try.prog 25 #[.func (.func g) #[] cap] w fun e w' => e = .returned (.bool false) ∧ Fp S w w' ∧ ∃ W', Q W' ∧ W'.heap.size ≤ w'.heap.size ∧ ∀ k, k < W'.heap.size → k ≠ w.heap.size → w'.heap[k]? = W'.heap[k]? := by
 have hmf := run_makeFunc
 have H := Lib.hid h
 have HS := Lib.hid hS
 clear h hS
 go_enter_defers Try.func25, Try.ntmps25
 go_wp2_with fail
 refine (H.out _ Z1w0 (by simp)).mono ?_
 rintro e w1 ⟨rfl, hb1, hQ⟩
 have hz := hb1.size
 simp at hz
 have hblk : w1.heap[w.heap.size]? = some (.cells #[.bool false] 4 (0, 0)) := by
  rw [hb1.block _ (by simp) (fun hk => by have := HS.out _ hk; omega)]; exact heap_alloc_new w _
 have c2 : w1.cell? ⟨w.heap.size, 0, none⟩ = some (.bool false) := by simp [World.cell?, hblk]
 have f2 : w1.frozen? ⟨w.heap.size, 0, none⟩ = false := by simp [World.frozen?, hblk]
 have hb2 : Fp S w w1 := ((Fp.refl S w).alloc _).tr hb1
 have hb3 := Lib.hid (show Fp S w w1 ∧ Q w1 from ⟨hb2, hQ⟩)
 clear hb1 hb2 hQ hblk
 go_wp2
 refine leaves_cons (f := 43) (args := #[.pointer (some ⟨w.heap.size, 0, none⟩)]) (by simp) (by simp [go_sem]) ?_
 refine (catch_panicking _ false _ c2 f2 (by omega)).mono ?_
 rintro e u' w'' ⟨rfl, rfl, rfl⟩
 obtain ⟨hb2, hQ⟩ := hb3.out
 have k1 : w.heap.size < w1.heap.size := by omega
 simp [Leaves, settle, results, Try.results25, go_sem, c2, k1]
 exact ⟨(hb2.setCell (by simp) _).alloc _, w1, hQ, by simp, fun k hk hne => (Below.heap_alloc _ _ _ (by simp; omega)).trans (Below.heap_setCell _ ⟨w.heap.size, 0, none⟩ _ k hne)⟩
theorem blk_newk {w : World} {o : Obj} {k : Nat} (h : k = w.heap.size) : (w.alloc o).heap[k]? = some o := by subst h; exact blk_new w o
theorem six (w : World) (o0 o1 o2 o3 o4 o5 : Obj) : (((((((w.alloc o0).alloc o1).alloc o2).alloc o3).alloc o4).alloc o5).heap[w.heap.size]? = some o0) ∧ (((((((w.alloc o0).alloc o1).alloc o2).alloc o3).alloc o4).alloc o5).heap[w.heap.size + 1]? = some o1) ∧ (((((((w.alloc o0).alloc o1).alloc o2).alloc o3).alloc o4).alloc o5).heap[w.heap.size + 2]? = some o2) ∧ (((((((w.alloc o0).alloc o1).alloc o2).alloc o3).alloc o4).alloc o5).heap[w.heap.size + 3]? = some o3) ∧ (((((((w.alloc o0).alloc o1).alloc o2).alloc o3).alloc o4).alloc o5).heap[w.heap.size + 4]? = some o4) ∧ (((((((w.alloc o0).alloc o1).alloc o2).alloc o3).alloc o4).alloc o5).heap[w.heap.size + 5]? = some o5) :=
 ⟨blk_alloc (blk_alloc (blk_alloc (blk_alloc (blk_alloc (blk_new _ _) _) _) _) _) _, blk_alloc (blk_alloc (blk_alloc (blk_alloc (blk_newk (by simp)) _) _) _) _, blk_alloc (blk_alloc (blk_alloc (blk_newk (by simp)) _) _) _, blk_alloc (blk_alloc (blk_newk (by simp)) _) _, blk_alloc (blk_newk (by simp)) _, blk_newk (by simp)⟩
theorem may_true {l : List S25} {v : Int} (h : mayB l v = true) : 0 ≤ v ∧ v ≤ 64 ∧ l.length ≤ 256 ∧ ∀ r, r ∈ l → (r.f0.length : Int) = v := by
 unfold mayB at h
 split at h
 ·rename_i h0
  split at h
  ·rename_i h1
   split at h
   ·rename_i h2
    exact ⟨h0, h1, by omega, by simpa using h⟩
   ·cases h
  ·cases h
 ·cases h
theorem own_cong {w w1 : World} {base : Nat} {e : TypeId} {size n : Nat} {v : Value} {xs : List Value} (h : w.ownsRow base e size v n xs) (hb : ∀ k, v.ownBlock = some k → w1.heap[k]? = w.heap[k]?) : w1.ownsRow base e size v n xs := by
 obtain ⟨hl, hv⟩ := h
 refine ⟨hl, ?_⟩
 rcases hv with h | ⟨g', cap, cur, rfl, h1, hb', h2⟩
 ·exact .inl h
 ·exact .inr ⟨g', cap, cur, rfl, h1, (hb g' rfl).trans hb', h2⟩
theorem cf_solve (args : Array Value) (w : World) : (callFunc 26 args).run Try.prog w = .ok (.enter 26 args) w := by kernel_rfl
def SolEnd (base : Nat) (r : Int × List Rat × List Int) (e : Ending) (w' : World) : Prop := ∃ vp vw, e = .returned (.tuple #[.int .i64 r.1, vp, vw]) ∧ RowQ w' base vp r.2.1 ∧ RowI w' base vw r.2.2
theorem nilQ (w : World) (base : Nat) : RowQ w base (.slice none 0 0) [] := ⟨rfl, .inl ⟨rfl, rfl⟩⟩
theorem nilI (w : World) (base : Nat) : RowI w base (.slice none 0 0) [] := ⟨rfl, .inl ⟨rfl, rfl⟩⟩
set_option maxHeartbeats 64000000 in
set_option maxRecDepth 100000 in
theorem Solve_any (l : List S25) (A : Option Addr) (c : Nat) (v fuel : Int) (w : World) (hC : Kd.C k25 w A l.length l) (hc : l.length ≤ c) (hin : ∀ r, r ∈ l → RowIn r) (hf64 : In64 fuel) :
  Calls Try.prog 14 #[.slice A l.length c, .int .i64 v, .int .i64 fuel] w fun e w' => SolEnd w.heap.size (solve (l.map toZ) v fuel) e w' ∧ Below w.heap.size w w' := by
 have hmf := run_makeFunc
 obtain ⟨r, hr⟩ : ∃ r, solve (l.map toZ) v fuel = r := ⟨_, rfl⟩
 rw [hr]
 unfold solve at hr
 have HMay := Lib.hid (fun W (hW : Below w.heap.size w W) => may_any l v A c W (Kd.C_below hC hW) hc)
 rw [← mayB_is] at hr
 have HC := Lib.hid hC
 have HIN := Lib.hid hin
 have HF := Lib.hid hf64
 have HCC := Lib.hid hc
 cases hm : mayB l v with
 | false =>
  rw [hm] at HMay hr
  rw [if_neg (by decide)] at hr
  subst hr
  clear hC hin hf64 hc hm
  go_enter Try.func14, Try.ntmps14
  go_wp2_with fail
  refine (HMay.out _ Z1w0).mono ?_
  rintro e w1 ⟨rfl, hb1⟩
  have hz1 := hb1.size
  simp at hz1
  obtain ⟨k0, k1, k2, k3, k4, k5⟩ := six w (.cells #[.slice A l.length c] 22) (.cells #[.int .i64 v] 3) (.cells #[.int .i64 fuel] 3) (.cells #[.int .i64 0] 3) (.cells #[.slice none 0 0] 38) (.cells #[.slice none 0 0] 23)
  have k3 := Lib.hid (blk_below k3 hb1)
  have k4 := Lib.hid (blk_below k4 hb1)
  have k5 := Lib.hid (blk_below k5 hb1)
  have q3 : w1.cell? ⟨w.heap.size + 3, 0, none⟩ = some (.int .i64 0) := blk_cell k3.out 0
  have q4 : w1.cell? ⟨w.heap.size + 4, 0, none⟩ = some (.slice none 0 0) := blk_cell k4.out 0
  have q5 : w1.cell? ⟨w.heap.size + 5, 0, none⟩ = some (.slice none 0 0) := blk_cell k5.out 0
  have f3 : w1.frozen? ⟨w.heap.size + 3, 0, none⟩ = false := blk_frozen k3.out 0
  have f4 : w1.frozen? ⟨w.heap.size + 4, 0, none⟩ = false := blk_frozen k4.out 0
  have f5 : w1.frozen? ⟨w.heap.size + 5, 0, none⟩ = false := blk_frozen k5.out 0
  have HB1 := Lib.hid (show Below w.heap.size w w1 by refine Below.trans ?_ (hb1.mono Z1w1); exact Z1w0)
  clear hb1 k0 k1 k2 hz1
  go_wp2
  simp [bodyPost, results, Try.results14, go_sem, q3, q4, q5, f3, f4, f5]
  refine ⟨⟨_, _, rfl, nilQ _ _, nilI _ _⟩, ?_⟩
  refine Below.setCell (Below.setCell (Below.setCell HB1.out ?_ _) ?_ _) ?_ _
  all_goals (dsimp only; omega)
 | true =>
  obtain ⟨h0, h64, h256, hlen⟩ := may_true hm
  obtain ⟨vars, rfl⟩ : ∃ vars : Nat, v = (vars : Int) := ⟨v.toNat, by omega⟩
  rw [hm] at HMay hr
  rw [if_pos rfl, Int.toNat_natCast] at hr
  have HLEN := Lib.hid (And.intro (show vars ≤ 64 by omega) (And.intro h256 (fun r hr => by have := hlen r hr; omega : ∀ r, r ∈ l → r.f0.length = vars)))
  have HR := Lib.hid hr
  clear hC hin hf64 hc hm hr h0 h64 h256 hlen
  go_enter Try.func14, Try.ntmps14
  go_wp2_with fail
  refine (HMay.out _ Z1w0).mono ?_
  rintro e w1 ⟨rfl, hb1⟩
  obtain ⟨k0, k1, k2, k3, k4, k5⟩ := six w (.cells #[.slice A l.length c] 22) (.cells #[.int .i64 vars] 3) (.cells #[.int .i64 fuel] 3) (.cells #[.int .i64 0] 3) (.cells #[.slice none 0 0] 38) (.cells #[.slice none 0 0] 23)
  have hX : Bxs w1 w.heap.size (w.heap.size + 1) (w.heap.size + 3) (w.heap.size + 4) (w.heap.size + 5) (w.heap.size + 2) vars fuel (.slice A l.length c) := ⟨blk_below k0 hb1, blk_below k1 hb1, blk_below k3 hb1, blk_below k4 hb1, blk_below k5 hb1, blk_below k2 hb1⟩
  have HB1 := Lib.hid (show Below w.heap.size w w1 by refine Below.trans ?_ (hb1.mono Z1w1); exact Z1w0)
  have HX := Lib.hid hX
  clear hb1 k0 k1 k2 k3 k4 k5 hX
  go_wp2_with fail
  obtain ⟨o, ho⟩ : ∃ o, (made (l.map toZ) vars).bind (loop vars fuel.toNat) = o := ⟨_, rfl⟩
  have hS1 : ∀ W, Below w1.heap.size w1 W → w1.heap.size < W.heap.size → Calls Try.prog 26 #[.pointer (some ⟨w.heap.size, 0, none⟩), .pointer (some ⟨w.heap.size + 1, 0, none⟩), .pointer (some ⟨w.heap.size + 3, 0, none⟩), .pointer (some ⟨w.heap.size + 4, 0, none⟩), .pointer (some ⟨w.heap.size + 5, 0, none⟩), .pointer (some ⟨w.heap.size + 2, 0, none⟩)] W fun e W' => SEnd W.heap.size (w.heap.size + 3) (w.heap.size + 4) (w.heap.size + 5) o e W' ∧ Fp (fun k => k = w.heap.size + 3 ∨ k = w.heap.size + 4 ∨ k = w.heap.size + 5 ∨ k = w.heap.size + 2) W W' := by
   intro W hW hlt
   have h := solve1_any l A c vars fuel w W w.heap.size (w.heap.size + 1) (w.heap.size + 3) (w.heap.size + 4) (w.heap.size + 5) (w.heap.size + 2) HC.out HCC.out (HB1.out.trans (hW.mono HB1.out.size)) HIN.out HLEN.out.1 HLEN.out.2.1 HLEN.out.2.2 HF.out (HX.out.below hW (blk_lt HX.out.kr) (blk_lt HX.out.kv) (blk_lt HX.out.ka) (blk_lt HX.out.kp) (blk_lt HX.out.kw) (blk_lt HX.out.kf)) (by omega) (by omega)
   rw [ho] at h
   exact h
  have HS1 := Lib.hid hS1
  have HO := Lib.hid ho
  have hk := blk_lt HX.out.kw
  have HK := Lib.hid hk
  clear hS1 ho hk
  have hr := HR.out
  rw [HO.out] at hr
  cases o with
  | none =>
   simp only at hr
   subst hr
   refine (fits_no2 26 _ (fun k => k = w.heap.size + 3 ∨ k = w.heap.size + 4 ∨ k = w.heap.size + 5 ∨ k = w.heap.size + 2) (fun W => W.heap[w.heap.size + 3]? = some (.cells #[.int .i64 0] 3 (0, 0)) ∧ W.heap[w.heap.size + 4]? = some (.cells #[.slice none 0 0] 38 (0, 0)) ∧ W.heap[w.heap.size + 5]? = some (.cells #[.slice none 0 0] 23 (0, 0))) _ (by rintro k (rfl | rfl | rfl | rfl) <;> have := HK.out <;> omega) (cf_solve _) (fun W hW hlt => (HS1.out W hW hlt).mono (fun e w' h => ⟨h.1.1, h.2, h.1.2⟩))).mono ?_
   rintro e w3 ⟨rfl, hF3, W', ⟨hQ1, hQ2, hQ3⟩, hsz, hkk⟩
   have r3 := (hkk _ (blk_lt hQ1) Z1w2).trans hQ1
   have r4 := (hkk _ (blk_lt hQ2) Z1w2).trans hQ2
   have r5 := (hkk _ (blk_lt hQ3) Z1w2).trans hQ3
   have HB3 := Lib.hid (show Below w.heap.size w w3 from HB1.out.trans (hF3.below HB1.out.size (by rintro i hi (rfl | rfl | rfl | rfl) <;> omega)))
   have R3 := Lib.hid r3
   have R4 := Lib.hid r4
   have R5 := Lib.hid r5
   have q3 : w3.cell? ⟨w.heap.size + 3, 0, none⟩ = some (.int .i64 0) := blk_cell r3 0
   clear hF3 hQ1 hQ2 hQ3 hsz hkk r3 r4 r5
   go_wp2_with fail
   clear q3
   have HRQ := Lib.hid (nilQ w3 w.heap.size)
   have HRI := Lib.hid (nilI w3 w.heap.size)
   have HVP := Lib.hid (show ∀ i, i < 6 → (Value.slice none 0 0).ownBlock ≠ some (w.heap.size + i) from fun i _ h => by cases h)
   have HVW := HVP
   have q3 : w3.cell? ⟨w.heap.size + 3, 0, none⟩ = some (.int .i64 0) := blk_cell R3.out 0
   have q4 : w3.cell? ⟨w.heap.size + 4, 0, none⟩ = some (.slice none 0 0) := blk_cell R4.out 0
   have q5 : w3.cell? ⟨w.heap.size + 5, 0, none⟩ = some (.slice none 0 0) := blk_cell R5.out 0
   have f3 : w3.frozen? ⟨w.heap.size + 3, 0, none⟩ = false := blk_frozen R3.out 0
   have f4 : w3.frozen? ⟨w.heap.size + 4, 0, none⟩ = false := blk_frozen R4.out 0
   have f5 : w3.frozen? ⟨w.heap.size + 5, 0, none⟩ = false := blk_frozen R5.out 0
   refine wp_region_L 5 (Cells _) Z1w3 ((show Cells [(⟨w.heap.size + 3, 0, none⟩, .int .i64 0), (⟨w.heap.size + 4, 0, none⟩, .slice none 0 0), (⟨w.heap.size + 5, 0, none⟩, .slice none 0 0)] w3 from ⟨q3, q4, q5, trivial⟩).keep (Below.refl _ _).drew) (fun hHeld => ?_)
   refine tl0 ?_ Z1w4 (by rfl) (fun _ _ _ => id) ?_ (by assumption) ?_; rotate_left 1; (focus exact Z1w5); focus try simp only [Act.put, List.setIfInBounds_toArray, List.set_cons_zero, List.set_cons_succ]
   refine tl1 ?_ Z1w4 (by rfl) (fun _ _ _ => id) ?_ (by assumption) ?_; rotate_left 1; (focus exact Z1w5); focus try simp only [Act.put, List.setIfInBounds_toArray, List.set_cons_zero, List.set_cons_succ]
   refine tl2 ?_ Z1w4 (by rfl) (fun _ _ _ => id) ?_ (by assumption) ?_; rotate_left 1; (focus exact Z1w5); focus try simp only [Act.put, List.setIfInBounds_toArray, List.set_cons_zero, List.set_cons_succ]
   refine wpAnyL_ready (rs := [3]) Z1w3 (by simp) (al3 (fun K hK => ?_) (AllReadyL.nil))
   focus (go_simp)
   refine hK.out _ _ (fun _ => ?_) (fun hHeld => ?_)
   ·exact Z1w6
   focus (have hHeld := hHeld (by decide); clear hK K; refine Zp1w ?_)
   refine wpAnyL_ready (rs := [4]) Z1w3 (by simp) (al4 (fun K hK => ?_) (AllReadyL.nil))
   focus (go_simp)
   refine hK.out _ _ (fun _ => ?_) (fun hHeld => ?_)
   ·exact Z1w6
   focus (have hHeld := hHeld (by decide); clear hK K; refine Zp1w ?_)
   refine wpAnyL_ready (rs := [5]) Z1w3 (by simp) (al5 (fun K hK => ?_) (AllReadyL.nil))
   focus (go_simp)
   refine hK.out _ _ (fun h => absurd rfl h) (fun _ => ?_)
   focus (clear hK K; refine Zp1w ?_)
   refine wpAnyL_done Z1w3 ?_ _; rotate_left 1
   go_wp2
   simp [bodyPost, results, Try.results14, go_sem, q3, q4, q5, f3, f4, f5]
   refine ⟨⟨_, _, rfl, own_far (own_far (own_far HRQ.out (HVP.out 3 (by omega)) _) (HVP.out 4 (by omega)) _) (HVP.out 5 (by omega)) _, own_far (own_far (own_far HRI.out (HVW.out 3 (by omega)) _) (HVW.out 4 (by omega)) _) (HVW.out 5 (by omega)) _⟩, ?_⟩
   refine Below.drew (Below.setCell (Below.setCell (Below.setCell HB3.out ?_ _) ?_ _) ?_ _)
   all_goals (dsimp only; omega)
  | some s =>
   obtain ⟨a, p, ws⟩ := s
   simp only at hr
   have hfit : (∀ x, x ∈ p → Fit x) ∧ (∀ x, x ∈ ws → In64 x) := by
    obtain ⟨t, ht, h2⟩ := bind_some' HO.out
    exact loop_fit _ (made_wf HIN.out HLEN.out.1 HLEN.out.2.1 HLEN.out.2.2 ht) h2
   have HFIT := Lib.hid hfit
   have HR := Lib.hid hr
   clear hfit hr
   refine (fits_ok2 26 _ (fun k => k = w.heap.size + 3 ∨ k = w.heap.size + 4 ∨ k = w.heap.size + 5 ∨ k = w.heap.size + 2) (fun W => W.heap[w.heap.size + 3]? = some (.cells #[.int .i64 a] 3 (0, 0)) ∧ ∃ vp vw, W.heap[w.heap.size + 4]? = some (.cells #[vp] 38 (0, 0)) ∧ W.heap[w.heap.size + 5]? = some (.cells #[vw] 23 (0, 0)) ∧ RowQ W (w1.heap.size + 1) vp p ∧ RowI W (w1.heap.size + 1) vw ws) _ (by rintro k (rfl | rfl | rfl | rfl) <;> have := HK.out <;> omega) (cf_solve _) (fun W hW hlt => (HS1.out W hW hlt).mono (fun e w' h => ⟨h.1.1, h.2, h.1.2.1, by obtain ⟨vp, vw, h1, h2, h3, h4⟩ := h.1.2.2; exact ⟨vp, vw, h1, h2, own_less h3 hlt, own_less h4 hlt⟩⟩))).mono ?_
   rintro e w3 ⟨rfl, hF3, W', ⟨hQ1, vp, vw, hQ2, hQ3, hRQ, hRI⟩, hsz, hkk⟩
   have r3 := (hkk _ (blk_lt hQ1) Z1w2).trans hQ1
   have r4 := (hkk _ (blk_lt hQ2) Z1w2).trans hQ2
   have r5 := (hkk _ (blk_lt hQ3) Z1w2).trans hQ3
   have hq3 : RowQ w3 (w1.heap.size + 1) vp p := own_cong hRQ (fun k hk => by obtain ⟨_, hb, hg⟩ := own_blk_ty hRQ hk; exact hkk k (blk_lt hb) (by omega))
   have hi3 : RowI w3 (w1.heap.size + 1) vw ws := own_cong hRI (fun k hk => by obtain ⟨_, hb, hg⟩ := own_blk_ty hRI hk; exact hkk k (blk_lt hb) (by omega))
   have HB3 := Lib.hid (show Below w.heap.size w w3 from HB1.out.trans (hF3.below HB1.out.size (by rintro i hi (rfl | rfl | rfl | rfl) <;> omega)))
   have hle : w.heap.size ≤ w1.heap.size + 1 := Nat.le_succ_of_le HB1.out.size
   have HVP := Lib.hid (show ∀ i, i < 6 → vp.ownBlock ≠ some (w.heap.size + i) from fun i hi h => by obtain ⟨_, _, hg⟩ := own_blk_ty hq3 h; have := HK.out; omega)
   have HVW := Lib.hid (show ∀ i, i < 6 → vw.ownBlock ≠ some (w.heap.size + i) from fun i hi h => by obtain ⟨_, _, hg⟩ := own_blk_ty hi3 h; have := HK.out; omega)
   have HRQ := Lib.hid (show RowQ w3 w.heap.size vp p from own_less hq3 hle)
   have HRI := Lib.hid (show RowI w3 w.heap.size vw ws from own_less hi3 hle)
   obtain ⟨Ap, cp, rfl, hcp, hCp⟩ := Kd.R_reads (RowQ.toR HRQ.out)
   obtain ⟨Aw, cw, rfl, hcw, hCw⟩ := Kd.R_reads (RowI.toR HRI.out)
   rw [List.length_map] at hcp r4 HRQ HVP
   have HCP := Lib.hid (CheckPoint_any l (p.map ofQ) A Ap c cp w3 (Kd.C_below HC.out HB3.out) HCC.out hCp (by rw [List.length_map]; exact hcp) HIN.out (fun x hx => by
    obtain ⟨y, hy, rfl⟩ := List.mem_map.1 hx
    exact fit64 (HFIT.out.1 y hy)))
   have HCF := Lib.hid (CheckFarkas_any l ws A Aw c cw w3 (Kd.C_below HC.out HB3.out) HCC.out hCw hcw HIN.out HFIT.out.2)
   rw [chkP_of HFIT.out.1, List.length_map] at HCP
   rw [chkF_is] at HCF
   have q0 : w3.cell? ⟨w.heap.size, 0, none⟩ = some (.slice A l.length c) := by
    have hk := hF3.block w.heap.size (blk_lt HX.out.kr) (by rintro (h | h | h | h) <;> omega)
    exact blk_cell (hk.trans HX.out.kr) 0
   have R3 := Lib.hid r3
   have R4 := Lib.hid r4
   have R5 := Lib.hid r5
   have q3 : w3.cell? ⟨w.heap.size + 3, 0, none⟩ = some (.int .i64 a) := blk_cell R3.out 0
   have q4 : w3.cell? ⟨w.heap.size + 4, 0, none⟩ = some (.slice Ap p.length cp) := blk_cell R4.out 0
   have q5 : w3.cell? ⟨w.heap.size + 5, 0, none⟩ = some (.slice Aw ws.length cw) := blk_cell R5.out 0
   have f3 : w3.frozen? ⟨w.heap.size + 3, 0, none⟩ = false := blk_frozen R3.out 0
   have f4 : w3.frozen? ⟨w.heap.size + 4, 0, none⟩ = false := blk_frozen R4.out 0
   have f5 : w3.frozen? ⟨w.heap.size + 5, 0, none⟩ = false := blk_frozen R5.out 0
   clear hF3 hQ1 hQ2 hQ3 hRQ hRI hsz hkk r3 r4 r5 hq3 hi3 hle hcp hcw hCp hCw
   obtain ⟨b1, hb1⟩ : ∃ b1, checkPoint (l.map toZ) p = b1 := ⟨_, rfl⟩
   obtain ⟨b2, hb2⟩ : ∃ b2, checkFarkas (l.map toZ) ws = b2 := ⟨_, rfl⟩
   have hr := HR.out
   rw [hb1, hb2] at hr
   rw [hb1] at HCP
   rw [hb2] at HCF
   clear hb1 hb2
   by_cases ha : a = 1
   ·subst ha
    cases b1 with
    | true =>
     rw [if_neg (by rintro (⟨_, h⟩ | ⟨h, _⟩); cases h; omega)] at hr
     subst hr
     go_wp2_with fail
     refine HCP.out.mono ?_
     rintro e w4 ⟨rfl, hb4⟩
     have HB3 := Lib.hid (HB3.out.trans (hb4.mono HB3.out.size))
     have R3 := Lib.hid (blk_below R3.out hb4)
     have R4 := Lib.hid (blk_below R4.out hb4)
     have R5 := Lib.hid (blk_below R5.out hb4)
     have HRQ := Lib.hid (HRQ.out.below hb4)
     have HRI := ri_keep HRI hb4
     clear q3 q4 q5 f3 f4 f5 hb4
     have q3 : w4.cell? ⟨w.heap.size + 3, 0, none⟩ = some (.int .i64 1) := blk_cell R3.out 0
     have q4 : w4.cell? ⟨w.heap.size + 4, 0, none⟩ = some (.slice Ap p.length cp) := blk_cell R4.out 0
     have q5 : w4.cell? ⟨w.heap.size + 5, 0, none⟩ = some (.slice Aw ws.length cw) := blk_cell R5.out 0
     have f3 : w4.frozen? ⟨w.heap.size + 3, 0, none⟩ = false := blk_frozen R3.out 0
     have f4 : w4.frozen? ⟨w.heap.size + 4, 0, none⟩ = false := blk_frozen R4.out 0
     have f5 : w4.frozen? ⟨w.heap.size + 5, 0, none⟩ = false := blk_frozen R5.out 0
     go_wp2_with fail
     refine wp_region_L 5 (Cells _) Z1w3 ((show Cells [(⟨w.heap.size + 3, 0, none⟩, .int .i64 1), (⟨w.heap.size + 4, 0, none⟩, .slice Ap p.length cp), (⟨w.heap.size + 5, 0, none⟩, .slice Aw ws.length cw)] w4 from ⟨q3, q4, q5, trivial⟩).keep (Below.refl _ _).drew) (fun hHeld => ?_)
     refine tl0 ?_ Z1w4 (by rfl) (fun _ _ _ => id) ?_ (by assumption) ?_; rotate_left 1; (focus exact Z1w5); focus try simp only [Act.put, List.setIfInBounds_toArray, List.set_cons_zero, List.set_cons_succ]
     refine tl1 ?_ Z1w4 (by rfl) (fun _ _ _ => id) ?_ (by assumption) ?_; rotate_left 1; (focus exact Z1w5); focus try simp only [Act.put, List.setIfInBounds_toArray, List.set_cons_zero, List.set_cons_succ]
     refine tl2 ?_ Z1w4 (by rfl) (fun _ _ _ => id) ?_ (by assumption) ?_; rotate_left 1; (focus exact Z1w5); focus try simp only [Act.put, List.setIfInBounds_toArray, List.set_cons_zero, List.set_cons_succ]
     refine wpAnyL_ready (rs := [3]) Z1w3 (by simp) (al3 (fun K hK => ?_) (AllReadyL.nil))
     focus (go_simp)
     refine hK.out _ _ (fun _ => ?_) (fun hHeld => ?_)
     ·exact Z1w6
     focus (have hHeld := hHeld (by decide); clear hK K; refine Zp1w ?_)
     refine wpAnyL_ready (rs := [4]) Z1w3 (by simp) (al4 (fun K hK => ?_) (AllReadyL.nil))
     focus (go_simp)
     refine hK.out _ _ (fun _ => ?_) (fun hHeld => ?_)
     ·exact Z1w6
     focus (have hHeld := hHeld (by decide); clear hK K; refine Zp1w ?_)
     refine wpAnyL_ready (rs := [5]) Z1w3 (by simp) (al5 (fun K hK => ?_) (AllReadyL.nil))
     focus (go_simp)
     refine hK.out _ _ (fun h => absurd rfl h) (fun _ => ?_)
     focus (clear hK K; refine Zp1w ?_)
     refine wpAnyL_done Z1w3 ?_ _; rotate_left 1
     go_wp2
     simp [bodyPost, results, Try.results14, go_sem, q3, q4, q5, f3, f4, f5]
     refine ⟨⟨_, _, rfl, own_far (own_far (own_far HRQ.out (HVP.out 3 (by omega)) _) (HVP.out 4 (by omega)) _) (HVP.out 5 (by omega)) _, own_far (own_far (own_far HRI.out (HVW.out 3 (by omega)) _) (HVW.out 4 (by omega)) _) (HVW.out 5 (by omega)) _⟩, ?_⟩
     refine Below.drew (Below.setCell (Below.setCell (Below.setCell HB3.out ?_ _) ?_ _) ?_ _)
     all_goals (dsimp only; omega)
    | false =>
     rw [if_pos (.inl ⟨rfl, rfl⟩)] at hr
     subst hr
     go_wp2_with fail
     refine HCP.out.mono ?_
     rintro e w4 ⟨rfl, hb4⟩
     have HB3 := Lib.hid (HB3.out.trans (hb4.mono HB3.out.size))
     have R3 := Lib.hid (blk_below R3.out hb4)
     have R4 := Lib.hid (blk_below R4.out hb4)
     have R5 := Lib.hid (blk_below R5.out hb4)
     have HRQ := Lib.hid (HRQ.out.below hb4)
     have HRI := ri_keep HRI hb4
     clear q3 q4 q5 f3 f4 f5 hb4
     have q3 : w4.cell? ⟨w.heap.size + 3, 0, none⟩ = some (.int .i64 1) := blk_cell R3.out 0
     have q4 : w4.cell? ⟨w.heap.size + 4, 0, none⟩ = some (.slice Ap p.length cp) := blk_cell R4.out 0
     have q5 : w4.cell? ⟨w.heap.size + 5, 0, none⟩ = some (.slice Aw ws.length cw) := blk_cell R5.out 0
     have f3 : w4.frozen? ⟨w.heap.size + 3, 0, none⟩ = false := blk_frozen R3.out 0
     have f4 : w4.frozen? ⟨w.heap.size + 4, 0, none⟩ = false := blk_frozen R4.out 0
     have f5 : w4.frozen? ⟨w.heap.size + 5, 0, none⟩ = false := blk_frozen R5.out 0
     go_wp2
     simp [bodyPost, results, Try.results14, go_sem, q3, q4, q5, f3, f4, f5]
     refine ⟨⟨_, _, rfl, nilQ _ _, nilI _ _⟩, ?_⟩
     refine Below.setCell (Below.setCell (Below.setCell HB3.out ?_ _) ?_ _) ?_ _
     all_goals (dsimp only; omega)
   ·have e1 : (a = 1) = False := eq_false ha
    have e1b : (a == 1) = false := beq_eq_false_iff_ne.2 ha
    by_cases ha2 : a = 2
    ·subst ha2
     clear e1 e1b ha
     cases b2 with
     | true =>
      rw [if_neg (by rintro (⟨h, _⟩ | ⟨_, h⟩); omega; cases h)] at hr
      subst hr
      go_wp2_with fail
      refine HCF.out.mono ?_
      rintro e w4 ⟨rfl, hb4⟩
      have HB3 := Lib.hid (HB3.out.trans (hb4.mono HB3.out.size))
      have R3 := Lib.hid (blk_below R3.out hb4)
      have R4 := Lib.hid (blk_below R4.out hb4)
      have R5 := Lib.hid (blk_below R5.out hb4)
      have HRQ := Lib.hid (HRQ.out.below hb4)
      have HRI := ri_keep HRI hb4
      clear q3 q4 q5 f3 f4 f5 hb4
      have q3 : w4.cell? ⟨w.heap.size + 3, 0, none⟩ = some (.int .i64 2) := blk_cell R3.out 0
      have q4 : w4.cell? ⟨w.heap.size + 4, 0, none⟩ = some (.slice Ap p.length cp) := blk_cell R4.out 0
      have q5 : w4.cell? ⟨w.heap.size + 5, 0, none⟩ = some (.slice Aw ws.length cw) := blk_cell R5.out 0
      have f3 : w4.frozen? ⟨w.heap.size + 3, 0, none⟩ = false := blk_frozen R3.out 0
      have f4 : w4.frozen? ⟨w.heap.size + 4, 0, none⟩ = false := blk_frozen R4.out 0
      have f5 : w4.frozen? ⟨w.heap.size + 5, 0, none⟩ = false := blk_frozen R5.out 0
      go_wp2_with fail
      refine wp_region_L 5 (Cells _) Z1w3 ((show Cells [(⟨w.heap.size + 3, 0, none⟩, .int .i64 2), (⟨w.heap.size + 4, 0, none⟩, .slice Ap p.length cp), (⟨w.heap.size + 5, 0, none⟩, .slice Aw ws.length cw)] w4 from ⟨q3, q4, q5, trivial⟩).keep (Below.refl _ _).drew) (fun hHeld => ?_)
      refine tl0 ?_ Z1w4 (by rfl) (fun _ _ _ => id) ?_ (by assumption) ?_; rotate_left 1; (focus exact Z1w5); focus try simp only [Act.put, List.setIfInBounds_toArray, List.set_cons_zero, List.set_cons_succ]
      refine tl1 ?_ Z1w4 (by rfl) (fun _ _ _ => id) ?_ (by assumption) ?_; rotate_left 1; (focus exact Z1w5); focus try simp only [Act.put, List.setIfInBounds_toArray, List.set_cons_zero, List.set_cons_succ]
      refine tl2 ?_ Z1w4 (by rfl) (fun _ _ _ => id) ?_ (by assumption) ?_; rotate_left 1; (focus exact Z1w5); focus try simp only [Act.put, List.setIfInBounds_toArray, List.set_cons_zero, List.set_cons_succ]
      refine wpAnyL_ready (rs := [3]) Z1w3 (by simp) (al3 (fun K hK => ?_) (AllReadyL.nil))
      focus (go_simp)
      refine hK.out _ _ (fun _ => ?_) (fun hHeld => ?_)
      ·exact Z1w6
      focus (have hHeld := hHeld (by decide); clear hK K; refine Zp1w ?_)
      refine wpAnyL_ready (rs := [4]) Z1w3 (by simp) (al4 (fun K hK => ?_) (AllReadyL.nil))
      focus (go_simp)
      refine hK.out _ _ (fun _ => ?_) (fun hHeld => ?_)
      ·exact Z1w6
      focus (have hHeld := hHeld (by decide); clear hK K; refine Zp1w ?_)
      refine wpAnyL_ready (rs := [5]) Z1w3 (by simp) (al5 (fun K hK => ?_) (AllReadyL.nil))
      focus (go_simp)
      refine hK.out _ _ (fun h => absurd rfl h) (fun _ => ?_)
      focus (clear hK K; refine Zp1w ?_)
      refine wpAnyL_done Z1w3 ?_ _; rotate_left 1
      go_wp2
      simp [bodyPost, results, Try.results14, go_sem, q3, q4, q5, f3, f4, f5]
      refine ⟨⟨_, _, rfl, own_far (own_far (own_far HRQ.out (HVP.out 3 (by omega)) _) (HVP.out 4 (by omega)) _) (HVP.out 5 (by omega)) _, own_far (own_far (own_far HRI.out (HVW.out 3 (by omega)) _) (HVW.out 4 (by omega)) _) (HVW.out 5 (by omega)) _⟩, ?_⟩
      refine Below.drew (Below.setCell (Below.setCell (Below.setCell HB3.out ?_ _) ?_ _) ?_ _)
      all_goals (dsimp only; omega)
     | false =>
      rw [if_pos (.inr ⟨rfl, rfl⟩)] at hr
      subst hr
      go_wp2_with fail
      refine HCF.out.mono ?_
      rintro e w4 ⟨rfl, hb4⟩
      have HB3 := Lib.hid (HB3.out.trans (hb4.mono HB3.out.size))
      have R3 := Lib.hid (blk_below R3.out hb4)
      have R4 := Lib.hid (blk_below R4.out hb4)
      have R5 := Lib.hid (blk_below R5.out hb4)
      have HRQ := Lib.hid (HRQ.out.below hb4)
      have HRI := ri_keep HRI hb4
      clear q3 q4 q5 f3 f4 f5 hb4
      have q3 : w4.cell? ⟨w.heap.size + 3, 0, none⟩ = some (.int .i64 2) := blk_cell R3.out 0
      have q4 : w4.cell? ⟨w.heap.size + 4, 0, none⟩ = some (.slice Ap p.length cp) := blk_cell R4.out 0
      have q5 : w4.cell? ⟨w.heap.size + 5, 0, none⟩ = some (.slice Aw ws.length cw) := blk_cell R5.out 0
      have f3 : w4.frozen? ⟨w.heap.size + 3, 0, none⟩ = false := blk_frozen R3.out 0
      have f4 : w4.frozen? ⟨w.heap.size + 4, 0, none⟩ = false := blk_frozen R4.out 0
      have f5 : w4.frozen? ⟨w.heap.size + 5, 0, none⟩ = false := blk_frozen R5.out 0
      go_wp2
      simp [bodyPost, results, Try.results14, go_sem, q3, q4, q5, f3, f4, f5]
      refine ⟨⟨_, _, rfl, nilQ _ _, nilI _ _⟩, ?_⟩
      refine Below.setCell (Below.setCell (Below.setCell HB3.out ?_ _) ?_ _) ?_ _
      all_goals (dsimp only; omega)
    ·have e2 : (a = 2) = False := eq_false ha2
     have e2b : (a == 2) = false := beq_eq_false_iff_ne.2 ha2
     rw [if_neg (by rintro (⟨h, _⟩ | ⟨h, _⟩); exact ha h; exact ha2 h)] at hr
     subst hr
     clear ha ha2
     go_wp2_with fail
     refine wp_region_L 5 (Cells _) Z1w3 ((show Cells [(⟨w.heap.size + 3, 0, none⟩, .int .i64 a), (⟨w.heap.size + 4, 0, none⟩, .slice Ap p.length cp), (⟨w.heap.size + 5, 0, none⟩, .slice Aw ws.length cw)] w3 from ⟨q3, q4, q5, trivial⟩).keep (Below.refl _ _).drew) (fun hHeld => ?_)
     refine tl0 ?_ Z1w4 (by rfl) (fun _ _ _ => id) ?_ (by assumption) ?_; rotate_left 1; (focus exact Z1w5); focus try simp only [Act.put, List.setIfInBounds_toArray, List.set_cons_zero, List.set_cons_succ]
     refine tl1 ?_ Z1w4 (by rfl) (fun _ _ _ => id) ?_ (by assumption) ?_; rotate_left 1; (focus exact Z1w5); focus try simp only [Act.put, List.setIfInBounds_toArray, List.set_cons_zero, List.set_cons_succ]
     refine tl2 ?_ Z1w4 (by rfl) (fun _ _ _ => id) ?_ (by assumption) ?_; rotate_left 1; (focus exact Z1w5); focus try simp only [Act.put, List.setIfInBounds_toArray, List.set_cons_zero, List.set_cons_succ]
     refine wpAnyL_ready (rs := [3]) Z1w3 (by simp) (al3 (fun K hK => ?_) (AllReadyL.nil))
     focus (go_simp)
     refine hK.out _ _ (fun _ => ?_) (fun hHeld => ?_)
     ·exact Z1w6
     focus (have hHeld := hHeld (by decide); clear hK K; refine Zp1w ?_)
     refine wpAnyL_ready (rs := [4]) Z1w3 (by simp) (al4 (fun K hK => ?_) (AllReadyL.nil))
     focus (go_simp)
     refine hK.out _ _ (fun _ => ?_) (fun hHeld => ?_)
     ·exact Z1w6
     focus (have hHeld := hHeld (by decide); clear hK K; refine Zp1w ?_)
     refine wpAnyL_ready (rs := [5]) Z1w3 (by simp) (al5 (fun K hK => ?_) (AllReadyL.nil))
     focus (go_simp)
     refine hK.out _ _ (fun h => absurd rfl h) (fun _ => ?_)
     focus (clear hK K; refine Zp1w ?_)
     refine wpAnyL_done Z1w3 ?_ _; rotate_left 1
     go_wp2
     simp [bodyPost, results, Try.results14, go_sem, q3, q4, q5, f3, f4, f5]
     refine ⟨⟨_, _, rfl, own_far (own_far (own_far HRQ.out (HVP.out 3 (by omega)) _) (HVP.out 4 (by omega)) _) (HVP.out 5 (by omega)) _, own_far (own_far (own_far HRI.out (HVW.out 3 (by omega)) _) (HVW.out 4 (by omega)) _) (HVW.out 5 (by omega)) _⟩, ?_⟩
     refine Below.drew (Below.setCell (Below.setCell (Below.setCell HB3.out ?_ _) ?_ _) ?_ _)
     all_goals (dsimp only; omega)
end Go.Proofs.Ytmcfcmijopbinaa.Ln
end

section
/- whole.Solve. -/
namespace Go.Proofs
theorem Zp44 {p q : Prop} (hq : q) (h : p = q := by first | (simp only [Act.put, List.setIfInBounds_toArray, List.set_cons_zero, List.set_cons_succ]; done) | (simp only [Act.put, List.setIfInBounds_toArray, List.set_cons_zero, List.set_cons_succ]; rfl) | rfl) : p := Eq.mpr h hq
theorem Z440 {p : Prop} (h : p := by (intro w_ hSw; simp only [Cells] at hSw; go_simp; all_goals (with_reducible rfl); done)) : p := h
theorem Z441 {p : Prop} (h : p := by simp [results, Try.results9, go_sem, q0, f0]) : p := h
end Go.Proofs
namespace Go.Proofs.Ytmcfcmijopbinaa.Ln
open Go.RowKit Go.Proofs.Ytmcfcmijopbinaa.Num Go.Proofs.Ytmcfcmijopbinaa.Given Go.Proofs.Ytmcfcmijopbinaa.Lin Go.Proofs.YtmcfcmijopbinaaW.PrintWords
set_option linter.unusedVariables false
set_option linter.unusedSimpArgs false
theorem run_store_func {P : Program} (a : Addr) (fn : Fn) (x c : Array Value) (m : Mode) (w : World) : (store a (.func fn x c) m).run P w = stored P w a (.func fn x c) m := run_store P w a _ m rfl
theorem loop_len (vars : Nat) : ∀ (f : Nat) (t : Tab) (s : Int × List Rat × List Int), loop vars f t = some s → s.2.1.length ≤ vars := by
 intro f
 induction f with
 | zero =>
  intro t s h
  unfold loop at h
  split at h
  ·cases h; simp; omega
  ·split at h
   ·obtain ⟨w, -, rfl⟩ := Option.map_eq_some_iff.1 h
    simp
   ·cases h; simp
 | succ f ih =>
  intro t s h
  unfold loop at h
  split at h
  ·cases h; simp; omega
  ·split at h
   ·obtain ⟨w, -, rfl⟩ := Option.map_eq_some_iff.1 h
    simp
   ·obtain ⟨t', -, h'⟩ := Option.bind_eq_some_iff.1 h
    exact ih t' s h'
theorem solC : SolC := by
 intro l A c v fuel w hC hc hin hf
 refine ⟨⟨(solve_fit hin v fuel).1, ?_, fun h1 => ?_⟩, ?_⟩
 ·rcases solve_cases (l.map toZ) v fuel with ⟨e, -⟩ | ⟨hm, a, p, ws, ho, e, -⟩
  ·rw [e]; simp
  ·rw [e]
   obtain ⟨t, -, h'⟩ := Option.bind_eq_some_iff.1 ho
   have := loop_len _ _ _ _ h'
   have := mayQ_true hm
   dsimp only at *
   omega
 ·cases hm : mayQ (l.map toZ) v with
  | true => exact ⟨(mayQ_true hm).1, (mayQ_true hm).2.1⟩
  | false => rw [solve_may hm] at h1; cases h1
 ·refine (Solve_any l A c v fuel w hC hc hin hf).mono ?_
  rintro e w' ⟨⟨vp, vw, rfl, hp, hw⟩, hb⟩
  exact ⟨⟨vp, vw, rfl, hp⟩, hb⟩
theorem srch_in (v : Int) : ∀ (d f : Nat) (l : List S25), (∀ r, r ∈ l → RowIn r) → ∀ x, x ∈ (srch v d f (l.map toZ)).2.2 → In64 x := by
 intro d
 induction d with
 | zero => intro f l _ x hx; cases hx
 | succ d ih =>
  intro f l hin x hx
  cases f with
  | zero => cases hx
  | succ f =>
   have hfit := solve_fit hin v 10000
   rcases srch_step v d f (l.map toZ) rfl with ⟨_, h⟩ | ⟨_, _, h⟩ | ⟨i, a, b, h1, h2, ha, hb, h⟩
   ·rw [h] at hx; cases hx
   ·rw [h] at hx
    obtain ⟨y, hy, rfl⟩ := List.mem_map.1 hx
    exact (hfit.1 y hy).1
   ·have hi := frac_some h2
    have hfx : Fit (rdQ (solve (l.map toZ) v 10000).2.1 i) := by rw [← rdQ_get hi.1]; exact hfit.1 _ (List.getElem_mem hi.1)
    have hh := floor_half hfx hi.2
    have hA : ∀ y, y ∈ a.2.2 → In64 y := by
     rw [← ha]
     have := ih f (l ++ [⟨(List.replicate v.toNat (0 : Int)).set i 1, -(rdQ (solve (l.map toZ) v 10000).2.1 i).floor⟩]) (fun r hr => (List.mem_append.1 hr).elim (hin r) (fun h => by rw [List.mem_singleton.1 h]; exact bnd_in (by decide) hh.1))
     rw [List.map_append] at this
     exact this
    have hB : ∀ y, y ∈ b.2.2 → In64 y := by
     rw [← hb]
     have := ih a.2.1 (l ++ [⟨(List.replicate v.toNat (0 : Int)).set i (-1), (rdQ (solve (l.map toZ) v 10000).2.1 i).ceil⟩]) (fun r hr => (List.mem_append.1 hr).elim (hin r) (fun h => by rw [List.mem_singleton.1 h]; exact bnd_in (by decide) (by rw [ceil_floor hi.2]; exact hh.2)))
     rw [List.map_append] at this
     exact this
    rcases h with ⟨_, h⟩ | ⟨_, _, h⟩ | ⟨_, _, h⟩
    ·rw [h] at hx; exact hA x hx
    ·rw [h] at hx; exact hB x hx
    ·rw [h] at hx; cases hx
set_option maxHeartbeats 64000000 in
set_option maxRecDepth 100000 in
theorem wsolve_any (l : List S25) (A : Option Addr) (c : Nat) (v fuel : Int) (w : World) (hC : Kd.C k25 w A l.length l) (hc : l.length ≤ c) (hin : ∀ r, r ∈ l → RowIn r) (hf64 : In64 fuel) (hld : l.length + fuel.toNat ≤ 100000) :
  Calls Try.prog 9 #[.slice A l.length c, .int .i64 v, .int .i64 fuel] w fun e w' => (∃ vp, e = .returned (.tuple #[.int .i64 (wsolve (l.map toZ) v fuel (chkW (l.map toZ))).1, vp]) ∧ RowI w' w.heap.size vp (wsolve (l.map toZ) v fuel (chkW (l.map toZ))).2) ∧ Below w.heap.size w w' := by
 have hmf := run_makeFunc
 have hst := run_store_func (P := Try.prog)
 obtain ⟨raws, hraw, henc⟩ := raw_of row_one hC (by decide)
 have hap : Apart (w.heap.size + 1) w.heap.size (w.heap.size + 2) (w.heap.size + 4) (w.heap.size + 3) := by unfold Apart; omega
 have HS := Lib.hid (fun (W : World) (hb : Below w.heap.size w W) (hX : WBx W (w.heap.size + 1) w.heap.size (w.heap.size + 2) (w.heap.size + 4) (w.heap.size + 3) v fuel (.slice none 0 0)) =>
  search_any (B := w.heap.size) solC hap fuel.toNat fuel.toNat fuel l raws A c W (Nat.le_refl _) rfl hf64 hld
   ⟨fun W' hf => hraw.below (hb.trans (hf.below hb.size (by intro k hk h; omega))), fun W' hf => henc.below (hb.trans (hf.below hb.size (by intro k hk h; omega))), by omega⟩ hc hin hX hb.size)
 have HIN := Lib.hid (fun x hx => srch_in v fuel.toNat fuel.toNat l hin x hx)
 have HC := Lib.hid (And.intro hC (And.intro hc hin))
 obtain ⟨R, hR⟩ : ∃ R, srch v fuel.toNat fuel.toNat (l.map toZ) = R := ⟨_, rfl⟩
 obtain ⟨T, hT⟩ : ∃ T, wsolve (l.map toZ) v fuel (chkW (l.map toZ)) = T := ⟨_, rfl⟩
 rw [hT]
 unfold wsolve at hT
 rw [hR] at HS HIN hT
 have HT := Lib.hid hT
 clear hR hT hC hc hin hf64 hld hraw henc hap
 go_enter Try.func9, Try.ntmps9
 go_wp2_with fail
 have hb5 : Below w.heap.size w (((((w.alloc (.cells #[.int .i64 v] 3)).alloc (.cells #[.int .i64 fuel] 3)).alloc (.cells #[.slice none 0 0] 23)).alloc (.cells #[.func (.func 13) #[] #[.pointer (some ⟨w.heap.size + 1, 0, none⟩), .pointer (some ⟨w.heap.size, 0, none⟩), .pointer (some ⟨w.heap.size + 1 + 1, 0, none⟩), .pointer (some ⟨w.heap.size + 1 + 1 + 1 + 1, 0, none⟩)]] 35)).alloc (.cells #[.func (.func 11) #[] #[.pointer (some ⟨w.heap.size + 1 + 1 + 1, 0, none⟩)]] 37)) := (by repeat (first | exact Below.refl _ _ | with_reducible assumption | refine Below.alloc ?_ (by first | exact Nat.le_refl _ | (simp; done) | (simp; omega) | omega) _ | refine Below.setCell ?_ (by first | exact Nat.le_refl _ | (simp; done) | (simp; omega) | omega) _ | refine Below.drew ?_ | refine bdrewN ?_ _))
 have hX5 := WBx.mk (w := (((((w.alloc (.cells #[.int .i64 v] 3)).alloc (.cells #[.int .i64 fuel] 3)).alloc (.cells #[.slice none 0 0] 23)).alloc (.cells #[.func (.func 13) #[] #[.pointer (some ⟨w.heap.size + 1, 0, none⟩), .pointer (some ⟨w.heap.size, 0, none⟩), .pointer (some ⟨w.heap.size + 1 + 1, 0, none⟩), .pointer (some ⟨w.heap.size + 1 + 1 + 1 + 1, 0, none⟩)]] 35)).alloc (.cells #[.func (.func 11) #[] #[.pointer (some ⟨w.heap.size + 1 + 1 + 1, 0, none⟩)]] 37)))
  (fb := w.heap.size + 1) (vb := w.heap.size) (pb := w.heap.size + 2) (bb := w.heap.size + 4) (sb := w.heap.size + 3) (v := v) (fuel := fuel) (pv := .slice none 0 0)
  (blk_alloc (blk_alloc (blk_alloc (blk_newk2 (by simp)) _) _) _) (blk_alloc (blk_alloc (blk_alloc (blk_alloc (blk_new _ _) _) _) _) _) (blk_alloc (blk_alloc (blk_newk2 (by simp)) _) _) (blk_newk2 (by simp)) (blk_alloc (blk_newk2 (by simp)) _)
 have hcall := HS.out _ hb5 hX5
 generalize (((((w.alloc (.cells #[.int .i64 v] 3)).alloc (.cells #[.int .i64 fuel] 3)).alloc (.cells #[.slice none 0 0] 23)).alloc (.cells #[.func (.func 13) #[] #[.pointer (some ⟨w.heap.size + 1, 0, none⟩), .pointer (some ⟨w.heap.size, 0, none⟩), .pointer (some ⟨w.heap.size + 1 + 1, 0, none⟩), .pointer (some ⟨w.heap.size + 1 + 1 + 1 + 1, 0, none⟩)]] 35)).alloc (.cells #[.func (.func 11) #[] #[.pointer (some ⟨w.heap.size + 1 + 1 + 1, 0, none⟩)]] 37)) = w5 at hb5 hX5 hcall ⊢
 refine hcall.mono ?_
 rintro e w6 ⟨rfl, hF, fu, pv, hX, hfu, -, hI, hp⟩
 have HB6 := Lib.hid (show Below w.heap.size w w6 from hb5.trans (hF.below hb5.size (by intro k hk h; omega)))
 have HKP := Lib.hid hX.kp
 have HI := Lib.hid hI
 have HNP := Lib.hid (show pv.ownBlock ≠ some (w.heap.size + 1 + 1) from fun e => by
  obtain ⟨_, hb, hg⟩ := own_blk_ty hI e
  exact blk_ne hb hX.kp (by decide) rfl)
 have q0 : w6.cell? ⟨w.heap.size + 1 + 1, 0, none⟩ = some pv := blk_cell hX.kp 0
 have f0 : w6.frozen? ⟨w.heap.size + 1 + 1, 0, none⟩ = false := blk_frozen hX.kp 0
 clear hb5 hX5 hcall hF hX hfu hI
 by_cases h1 : R.1 = 1
 ·have e1 : (R.1 = 1) = True := eq_true h1
  have e1b : (R.1 != 1) = false := by rw [h1]; rfl
  obtain ⟨A2, c2, rfl, hc2, hC2⟩ := Kd.R_reads (RowI.toR HI.out)
  have HCK := Lib.hid (wcheck_any l R.2.2 A A2 c c2 w6 (Kd.C_below HC.out.1 HB6.out) HC.out.2.1 hC2 HC.out.2.2 HIN.out)
  have hT := HT.out
  rw [if_pos h1] at hT
  have H1 := Lib.hid h1
  clear hc2 hC2 hp h1
  go_wp2_with fail
  refine HCK.out.mono ?_
  rintro e w7 ⟨rfl, hb7⟩
  have HB7 := Lib.hid (HB6.out.trans (hb7.mono HB6.out.size))
  have HKP7 := Lib.hid (blk_below HKP.out hb7)
  have HI7 := ri_keep HI hb7
  have q0 : w7.cell? ⟨w.heap.size + 1 + 1, 0, none⟩ = some (.slice A2 R.2.2.length c2) := blk_cell HKP7.out 0
  have f0 : w7.frozen? ⟨w.heap.size + 1 + 1, 0, none⟩ = false := blk_frozen HKP7.out 0
  clear hb7
  cases hck : chkW (l.map toZ) R.2.2 with
  | true =>
   rw [if_pos hck] at hT
   subst hT
   clear hck
   have HE1 := Lib.hid e1
   go_wp2_with fail
   refine wp_region_L 3 (Cells _) (by kernel_rfl) ((show Cells [(⟨w.heap.size + 1 + 1, 0, none⟩, .slice A2 R.2.2.length c2)] w7 from ⟨q0, trivial⟩).keep (Below.refl _ _).drew) (fun hHeld => ?_)
   refine tl0 ?_ (by decide +kernel) (by rfl) (fun _ _ _ => id) ?_ (by assumption) ?_; rotate_left 1; (focus exact Z440); focus try simp only [Act.put, List.setIfInBounds_toArray, List.set_cons_zero, List.set_cons_succ]
   refine tl1 ?_ (by decide +kernel) (by rfl) (fun _ _ _ => id) ?_ (by assumption) ?_; rotate_left 1; (focus exact Z440); focus try simp only [Act.put, List.setIfInBounds_toArray, List.set_cons_zero, List.set_cons_succ]
   refine tl2 ?_ (by decide +kernel) (by rfl) (fun _ _ _ => id) ?_ (by assumption) ?_; rotate_left 1; (focus exact Z440); focus try simp only [Act.put, List.setIfInBounds_toArray, List.set_cons_zero, List.set_cons_succ]
   refine wpAnyL_ready (rs := [3]) (by kernel_rfl) (by simp) (al3 (fun K hK => ?_) (AllReadyL.nil))
   focus (go_simp)
   refine hK.out _ _ (fun h => absurd rfl h) (fun _ => ?_)
   focus (clear hK K; refine Zp44 ?_)
   refine wpAnyL_done (by kernel_rfl) ?_ _; rotate_left 1
   all_goals (
    go_wp2
    refine bodyPost_ret (v := .tuple #[.int .i64 R.1, .slice A2 R.2.2.length c2]) Z441 rfl ⟨⟨_, by rw [H1.out], own_far HI7.out HNP.out _⟩, Below.drew (Below.setCell HB7.out (by dsimp only; omega) _)⟩)
  | false =>
   rw [if_neg (by rw [hck]; decide)] at hT
   subst hT
   clear hck
   go_wp2
   refine bodyPost_ret (v := .tuple #[.int .i64 0, .slice none 0 0]) Z441 rfl ⟨⟨_, rfl, ⟨rfl, .inl ⟨rfl, rfl⟩⟩⟩, Below.setCell HB7.out (by dsimp only; omega) _⟩
 ·have e1 : (R.1 = 1) = False := eq_false h1
  have e1b : (R.1 != 1) = true := bne_iff_ne.2 h1
  have hT := HT.out
  rw [if_neg h1] at hT
  subst hT
  obtain rfl := hp h1
  clear hp h1
  go_wp2
  refine bodyPost_ret (v := .tuple #[.int .i64 R.1, .slice none 0 0]) Z441 rfl ⟨⟨_, rfl, ⟨rfl, .inl ⟨rfl, rfl⟩⟩⟩, Below.setCell HB6.out (by dsimp only; omega) _⟩
end Go.Proofs.Ytmcfcmijopbinaa.Ln
end
