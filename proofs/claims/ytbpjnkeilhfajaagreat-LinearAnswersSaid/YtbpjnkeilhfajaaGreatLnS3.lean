/- linear.Solve. -/
import Derived.Test.YtbpjnkeilhfajaaGreatTl
import Derived.Test.YtbpjnkeilhfajaaGreatLnS1
namespace Go.Proofs
theorem Zp22 {p q : Prop} (hq : q) (h : p = q := by first | (simp only [Act.put, List.setIfInBounds_toArray, List.set_cons_zero, List.set_cons_succ]; done) | (simp only [Act.put, List.setIfInBounds_toArray, List.set_cons_zero, List.set_cons_succ]; rfl) | rfl) : p := Eq.mpr h hq
theorem Z220 {p : Prop} (h : p := by repeat (first | exact Below.refl _ _ | with_reducible assumption | refine Below.alloc ?_ (by first | exact Nat.le_refl _ | (simp; done) | (simp; omega) | omega) _ | refine Below.setCell ?_ (by first | exact Nat.le_refl _ | (simp; done) | (simp; omega) | omega) _ | refine Below.drew ?_ | refine bdrewN ?_ _)) : p := h
theorem Z221 {p : Prop} (h : p := by first | exact Nat.le_refl _ | (simp; done) | (simp; omega) | omega) : p := h
theorem Z222 {p : Prop} (h : p := by have := HK.out; omega) : p := h
theorem Z223 {p : Prop} (h : p := by kernel_rfl) : p := h
theorem Z224 {p : Prop} (h : p := by decide +kernel) : p := h
theorem Z225 {p : Prop} (h : p := by (intro w_ hSw; simp only [Cells] at hSw; go_simp; all_goals (with_reducible rfl); done)) : p := h
theorem Z226 {p : Prop} (h : p := by exact ⟨by simp [go_sem, q3, q4, q5], by simp [go_sem, q3, q4, q5], by simp [go_sem, q3, q4, q5], trivial⟩) : p := h
end Go.Proofs
namespace Go.Proofs.YtbpjnkeilhfajaaGreat.Ln
open Go.RowKit Go.Proofs.YtbpjnkeilhfajaaGreat.Num Go.Proofs.YtbpjnkeilhfajaaGreat.Given Go.Proofs.YtbpjnkeilhfajaaGreat.Lin Go.Proofs.YtbpjnkeilhfajaaGreatW.PrintWords
set_option linter.unusedVariables false
set_option linter.unusedSimpArgs false
theorem fits_ok2 (g : Nat) (cap : Array Value) (S : Nat → Prop) (Q : World → Prop) (w : World) (hS : ∀ k, S k → k < w.heap.size) (hcf : ∀ W, (callFunc g cap).run Tryz.prog W = .ok (.enter g cap) W)
  (h : ∀ W, Below w.heap.size w W → w.heap.size < W.heap.size → Calls Tryz.prog g cap W fun e W' => e = .returned (.tuple #[]) ∧ Fp S W W' ∧ Q W') :
  Calls Tryz.prog 37 #[.func (.func g) #[] cap] w fun e w' => e = .returned (.bool true) ∧ Fp S w w' ∧ ∃ W', Q W' ∧ W'.heap.size ≤ w'.heap.size ∧ ∀ k, k < W'.heap.size → k ≠ w.heap.size → w'.heap[k]? = W'.heap[k]? := by
 have hmf := run_makeFunc
 have H := Lib.hid h
 have HS := Lib.hid hS
 clear h hS
 go_enter_defers Tryz.func37, Tryz.ntmps37
 go_wp2_with fail
 refine (H.out _ Z220 (by simp)).mono ?_
 rintro e w1 ⟨rfl, hb1, hQ⟩
 have hz := hb1.size
 simp at hz
 have hblk : w1.heap[w.heap.size]? = some (.cells #[.bool false] 4 (0, 0)) := by
  rw [hb1.block _ (by simp) (fun hk => by have := HS.out _ hk; omega)]; exact heap_alloc_new w _
 have c2 : w1.cell? ⟨w.heap.size, 0, none⟩ = some (.bool false) := by simp [World.cell?, hblk]
 have f2 : w1.frozen? ⟨w.heap.size, 0, none⟩ = false := by simp [World.frozen?, hblk]
 have hb2 : Fp S w w1 := ((Fp.refl S w).alloc _).tr hb1
 have hb3 := Lib.hid (show Fp S w w1 ∧ Q w1 from ⟨hb2, hQ⟩)
 clear hb1 hb2 hQ hblk
 go_wp2
 refine leaves_cons (f := 83) (args := #[.pointer (some ⟨w.heap.size, 0, none⟩)]) (by simp) (by simp [go_sem]) ?_
 refine (catch_idle _ _).mono ?_
 rintro e u' w'' ⟨rfl, rfl, rfl⟩
 obtain ⟨hb2, hQ⟩ := hb3.out
 have k1 : w.heap.size < w1.heap.size := by omega
 simp [Leaves, settle, results, Tryz.results37, go_sem, c2, k1]
 exact ⟨hb2.setCell (by simp) _, w1, hQ, by simp, fun k hk hne => Below.heap_setCell _ ⟨w.heap.size, 0, none⟩ _ k hne⟩
theorem fits_no2 (g : Nat) (cap : Array Value) (S : Nat → Prop) (Q : World → Prop) (w : World) (hS : ∀ k, S k → k < w.heap.size) (hcf : ∀ W, (callFunc g cap).run Tryz.prog W = .ok (.enter g cap) W)
  (h : ∀ W, Below w.heap.size w W → w.heap.size < W.heap.size → Calls Tryz.prog g cap W fun e W' => e = .panicked LargeL ∧ Fp S W W' ∧ Q W') :
  Calls Tryz.prog 37 #[.func (.func g) #[] cap] w fun e w' => e = .returned (.bool false) ∧ Fp S w w' ∧ ∃ W', Q W' ∧ W'.heap.size ≤ w'.heap.size ∧ ∀ k, k < W'.heap.size → k ≠ w.heap.size → w'.heap[k]? = W'.heap[k]? := by
 have hmf := run_makeFunc
 have H := Lib.hid h
 have HS := Lib.hid hS
 clear h hS
 go_enter_defers Tryz.func37, Tryz.ntmps37
 go_wp2_with fail
 refine (H.out _ Z220 (by simp)).mono ?_
 rintro e w1 ⟨rfl, hb1, hQ⟩
 have hz := hb1.size
 simp at hz
 have hblk : w1.heap[w.heap.size]? = some (.cells #[.bool false] 4 (0, 0)) := by
  rw [hb1.block _ (by simp) (fun hk => by have := HS.out _ hk; omega)]; exact heap_alloc_new w _
 have c2 : w1.cell? ⟨w.heap.size, 0, none⟩ = some (.bool false) := by simp [World.cell?, hblk]
 have f2 : w1.frozen? ⟨w.heap.size, 0, none⟩ = false := by simp [World.frozen?, hblk]
 have hb2 : Fp S w w1 := ((Fp.refl S w).alloc _).tr hb1
 have hb3 := Lib.hid (show Fp S w w1 ∧ Q w1 from ⟨hb2, hQ⟩)
 clear hb1 hb2 hQ hblk
 go_wp2
 refine leaves_cons (f := 83) (args := #[.pointer (some ⟨w.heap.size, 0, none⟩)]) (by simp) (by simp [go_sem]) ?_
 refine (catch_panicking _ false _ c2 f2 (by omega)).mono ?_
 rintro e u' w'' ⟨rfl, rfl, rfl⟩
 obtain ⟨hb2, hQ⟩ := hb3.out
 have k1 : w.heap.size < w1.heap.size := by omega
 simp [Leaves, settle, results, Tryz.results37, go_sem, c2, k1]
 exact ⟨(hb2.setCell (by simp) _).alloc _, w1, hQ, by simp, fun k hk hne => (Below.heap_alloc _ _ _ (by simp; omega)).trans (Below.heap_setCell _ ⟨w.heap.size, 0, none⟩ _ k hne)⟩
theorem blk_newk {w : World} {o : Obj} {k : Nat} (h : k = w.heap.size) : (w.alloc o).heap[k]? = some o := by subst h; exact blk_new w o
theorem six (w : World) (o0 o1 o2 o3 o4 o5 : Obj) : (((((((w.alloc o0).alloc o1).alloc o2).alloc o3).alloc o4).alloc o5).heap[w.heap.size]? = some o0) ∧ (((((((w.alloc o0).alloc o1).alloc o2).alloc o3).alloc o4).alloc o5).heap[w.heap.size + 1]? = some o1) ∧ (((((((w.alloc o0).alloc o1).alloc o2).alloc o3).alloc o4).alloc o5).heap[w.heap.size + 2]? = some o2) ∧ (((((((w.alloc o0).alloc o1).alloc o2).alloc o3).alloc o4).alloc o5).heap[w.heap.size + 3]? = some o3) ∧ (((((((w.alloc o0).alloc o1).alloc o2).alloc o3).alloc o4).alloc o5).heap[w.heap.size + 4]? = some o4) ∧ (((((((w.alloc o0).alloc o1).alloc o2).alloc o3).alloc o4).alloc o5).heap[w.heap.size + 5]? = some o5) :=
 ⟨blk_alloc (blk_alloc (blk_alloc (blk_alloc (blk_alloc (blk_new _ _) _) _) _) _) _, blk_alloc (blk_alloc (blk_alloc (blk_alloc (blk_newk (by simp)) _) _) _) _, blk_alloc (blk_alloc (blk_alloc (blk_newk (by simp)) _) _) _, blk_alloc (blk_alloc (blk_newk (by simp)) _) _, blk_alloc (blk_newk (by simp)) _, blk_newk (by simp)⟩
theorem may_true {l : List S40} {v : Int} (h : mayB l v = true) : 0 ≤ v ∧ v ≤ 64 ∧ l.length ≤ 256 ∧ ∀ r, r ∈ l → (r.f0.length : Int) = v := by
 unfold mayB at h
 split at h
 ·rename_i h0
  split at h
  ·rename_i h1
   split at h
   ·rename_i h2
    exact ⟨h0, h1, by omega, by simpa using h⟩
   ·cases h
  ·cases h
 ·cases h
theorem own_cong {w w1 : World} {base : Nat} {e : TypeId} {size n : Nat} {v : Value} {xs : List Value} (h : w.ownsRow base e size v n xs) (hb : ∀ k, v.ownBlock = some k → w1.heap[k]? = w.heap[k]?) : w1.ownsRow base e size v n xs := by
 obtain ⟨hl, hv⟩ := h
 refine ⟨hl, ?_⟩
 rcases hv with h | ⟨g', cap, cur, rfl, h1, hb', h2⟩
 ·exact .inl h
 ·exact .inr ⟨g', cap, cur, rfl, h1, (hb g' rfl).trans hb', h2⟩
theorem cf_solve (args : Array Value) (w : World) : (callFunc 52 args).run Tryz.prog w = .ok (.enter 52 args) w := by kernel_rfl
def SolEnd (base : Nat) (r : Int × List Rat × List Int) (e : Ending) (w' : World) : Prop := ∃ vp vw, e = .returned (.tuple #[.int .i64 r.1, vp, vw]) ∧ RowQ w' base vp r.2.1 ∧ RowI w' base vw r.2.2
theorem nilQ (w : World) (base : Nat) : RowQ w base (.slice none 0 0) [] := ⟨rfl, .inl ⟨rfl, rfl⟩⟩
theorem nilI (w : World) (base : Nat) : RowI w base (.slice none 0 0) [] := ⟨rfl, .inl ⟨rfl, rfl⟩⟩
set_option maxHeartbeats 64000000 in
set_option maxRecDepth 100000 in
theorem Solve_any (l : List S40) (A : Option Addr) (c : Nat) (v fuel : Int) (w : World) (hC : Kd.C k40 w A l.length l) (hc : l.length ≤ c) (hin : ∀ r, r ∈ l → RowIn r) (hf64 : In64 fuel) :
  Calls Tryz.prog 19 #[.slice A l.length c, .int .i64 v, .int .i64 fuel] w fun e w' => SolEnd w.heap.size (solve (l.map toZ) v fuel) e w' ∧ Below w.heap.size w w' := by
 have hmf := run_makeFunc
 obtain ⟨r, hr⟩ : ∃ r, solve (l.map toZ) v fuel = r := ⟨_, rfl⟩
 rw [hr]
 unfold solve at hr
 have HMay := Lib.hid (fun W (hW : Below w.heap.size w W) => may_any l v A c W (Kd.C_below hC hW) hc)
 rw [← mayB_is] at hr
 have HC := Lib.hid hC
 have HIN := Lib.hid hin
 have HF := Lib.hid hf64
 have HCC := Lib.hid hc
 cases hm : mayB l v with
 | false =>
  rw [hm] at HMay hr
  rw [if_neg (by decide)] at hr
  subst hr
  clear hC hin hf64 hc hm
  go_enter Tryz.func19, Tryz.ntmps19
  go_wp2_with fail
  refine (HMay.out _ Z220).mono ?_
  rintro e w1 ⟨rfl, hb1⟩
  have hz1 := hb1.size
  simp at hz1
  obtain ⟨k0, k1, k2, k3, k4, k5⟩ := six w (.cells #[.slice A l.length c] 22) (.cells #[.int .i64 v] 3) (.cells #[.int .i64 fuel] 3) (.cells #[.int .i64 0] 3) (.cells #[.slice none 0 0] 26) (.cells #[.slice none 0 0] 23)
  have k3 := Lib.hid (blk_below k3 hb1)
  have k4 := Lib.hid (blk_below k4 hb1)
  have k5 := Lib.hid (blk_below k5 hb1)
  have q3 : w1.cell? ⟨w.heap.size + 3, 0, none⟩ = some (.int .i64 0) := blk_cell k3.out 0
  have q4 : w1.cell? ⟨w.heap.size + 4, 0, none⟩ = some (.slice none 0 0) := blk_cell k4.out 0
  have q5 : w1.cell? ⟨w.heap.size + 5, 0, none⟩ = some (.slice none 0 0) := blk_cell k5.out 0
  have f3 : w1.frozen? ⟨w.heap.size + 3, 0, none⟩ = false := blk_frozen k3.out 0
  have f4 : w1.frozen? ⟨w.heap.size + 4, 0, none⟩ = false := blk_frozen k4.out 0
  have f5 : w1.frozen? ⟨w.heap.size + 5, 0, none⟩ = false := blk_frozen k5.out 0
  have HB1 := Lib.hid (show Below w.heap.size w w1 by refine Below.trans ?_ (hb1.mono Z221); exact Z220)
  clear hb1 k0 k1 k2 hz1
  go_wp2
  simp [bodyPost, results, Tryz.results19, go_sem, q3, q4, q5, f3, f4, f5]
  refine ⟨⟨_, _, rfl, nilQ _ _, nilI _ _⟩, ?_⟩
  refine Below.setCell (Below.setCell (Below.setCell HB1.out ?_ _) ?_ _) ?_ _
  all_goals (dsimp only; omega)
 | true =>
  obtain ⟨h0, h64, h256, hlen⟩ := may_true hm
  obtain ⟨vars, rfl⟩ : ∃ vars : Nat, v = (vars : Int) := ⟨v.toNat, by omega⟩
  rw [hm] at HMay hr
  rw [if_pos rfl, Int.toNat_natCast] at hr
  have HLEN := Lib.hid (And.intro (show vars ≤ 64 by omega) (And.intro h256 (fun r hr => by have := hlen r hr; omega : ∀ r, r ∈ l → r.f0.length = vars)))
  have HR := Lib.hid hr
  clear hC hin hf64 hc hm hr h0 h64 h256 hlen
  go_enter Tryz.func19, Tryz.ntmps19
  go_wp2_with fail
  refine (HMay.out _ Z220).mono ?_
  rintro e w1 ⟨rfl, hb1⟩
  obtain ⟨k0, k1, k2, k3, k4, k5⟩ := six w (.cells #[.slice A l.length c] 22) (.cells #[.int .i64 vars] 3) (.cells #[.int .i64 fuel] 3) (.cells #[.int .i64 0] 3) (.cells #[.slice none 0 0] 26) (.cells #[.slice none 0 0] 23)
  have hX : Bxs w1 w.heap.size (w.heap.size + 1) (w.heap.size + 3) (w.heap.size + 4) (w.heap.size + 5) (w.heap.size + 2) vars fuel (.slice A l.length c) := ⟨blk_below k0 hb1, blk_below k1 hb1, blk_below k3 hb1, blk_below k4 hb1, blk_below k5 hb1, blk_below k2 hb1⟩
  have HB1 := Lib.hid (show Below w.heap.size w w1 by refine Below.trans ?_ (hb1.mono Z221); exact Z220)
  have HX := Lib.hid hX
  clear hb1 k0 k1 k2 k3 k4 k5 hX
  go_wp2_with fail
  obtain ⟨o, ho⟩ : ∃ o, (made (l.map toZ) vars).bind (loop vars fuel.toNat) = o := ⟨_, rfl⟩
  have hS1 : ∀ W, Below w1.heap.size w1 W → w1.heap.size < W.heap.size → Calls Tryz.prog 52 #[.pointer (some ⟨w.heap.size, 0, none⟩), .pointer (some ⟨w.heap.size + 1, 0, none⟩), .pointer (some ⟨w.heap.size + 3, 0, none⟩), .pointer (some ⟨w.heap.size + 4, 0, none⟩), .pointer (some ⟨w.heap.size + 5, 0, none⟩), .pointer (some ⟨w.heap.size + 2, 0, none⟩)] W fun e W' => SEnd W.heap.size (w.heap.size + 3) (w.heap.size + 4) (w.heap.size + 5) o e W' ∧ Fp (fun k => k = w.heap.size + 3 ∨ k = w.heap.size + 4 ∨ k = w.heap.size + 5 ∨ k = w.heap.size + 2) W W' := by
   intro W hW hlt
   have h := solve1_any l A c vars fuel w W w.heap.size (w.heap.size + 1) (w.heap.size + 3) (w.heap.size + 4) (w.heap.size + 5) (w.heap.size + 2) HC.out HCC.out (HB1.out.trans (hW.mono HB1.out.size)) HIN.out HLEN.out.1 HLEN.out.2.1 HLEN.out.2.2 HF.out (HX.out.below hW (blk_lt HX.out.kr) (blk_lt HX.out.kv) (blk_lt HX.out.ka) (blk_lt HX.out.kp) (blk_lt HX.out.kw) (blk_lt HX.out.kf)) (by omega) (by omega)
   rw [ho] at h
   exact h
  have HS1 := Lib.hid hS1
  have HO := Lib.hid ho
  have hk := blk_lt HX.out.kw
  have HK := Lib.hid hk
  clear hS1 ho hk
  have hr := HR.out
  rw [HO.out] at hr
  cases o with
  | none =>
   simp only at hr
   subst hr
   refine (fits_no2 52 _ (fun k => k = w.heap.size + 3 ∨ k = w.heap.size + 4 ∨ k = w.heap.size + 5 ∨ k = w.heap.size + 2) (fun W => W.heap[w.heap.size + 3]? = some (.cells #[.int .i64 0] 3 (0, 0)) ∧ W.heap[w.heap.size + 4]? = some (.cells #[.slice none 0 0] 26 (0, 0)) ∧ W.heap[w.heap.size + 5]? = some (.cells #[.slice none 0 0] 23 (0, 0))) _ (by rintro k (rfl | rfl | rfl | rfl) <;> have := HK.out <;> omega) (cf_solve _) (fun W hW hlt => (HS1.out W hW hlt).mono (fun e w' h => ⟨h.1.1, h.2, h.1.2⟩))).mono ?_
   rintro e w3 ⟨rfl, hF3, W', ⟨hQ1, hQ2, hQ3⟩, hsz, hkk⟩
   have r3 := (hkk _ (blk_lt hQ1) Z222).trans hQ1
   have r4 := (hkk _ (blk_lt hQ2) Z222).trans hQ2
   have r5 := (hkk _ (blk_lt hQ3) Z222).trans hQ3
   have HB3 := Lib.hid (show Below w.heap.size w w3 from HB1.out.trans (hF3.below HB1.out.size (by rintro i hi (rfl | rfl | rfl | rfl) <;> omega)))
   have R3 := Lib.hid r3
   have R4 := Lib.hid r4
   have R5 := Lib.hid r5
   have q3 : w3.cell? ⟨w.heap.size + 3, 0, none⟩ = some (.int .i64 0) := blk_cell r3 0
   clear hF3 hQ1 hQ2 hQ3 hsz hkk r3 r4 r5
   go_wp2_with fail
   clear q3
   have HRQ := Lib.hid (nilQ w3 w.heap.size)
   have HRI := Lib.hid (nilI w3 w.heap.size)
   have HVP := Lib.hid (show ∀ i, i < 6 → (Value.slice none 0 0).ownBlock ≠ some (w.heap.size + i) from fun i _ h => by cases h)
   have HVW := HVP
   have q3 : w3.cell? ⟨w.heap.size + 3, 0, none⟩ = some (.int .i64 0) := blk_cell R3.out 0
   have q4 : w3.cell? ⟨w.heap.size + 4, 0, none⟩ = some (.slice none 0 0) := blk_cell R4.out 0
   have q5 : w3.cell? ⟨w.heap.size + 5, 0, none⟩ = some (.slice none 0 0) := blk_cell R5.out 0
   have f3 : w3.frozen? ⟨w.heap.size + 3, 0, none⟩ = false := blk_frozen R3.out 0
   have f4 : w3.frozen? ⟨w.heap.size + 4, 0, none⟩ = false := blk_frozen R4.out 0
   have f5 : w3.frozen? ⟨w.heap.size + 5, 0, none⟩ = false := blk_frozen R5.out 0
   refine wp_region_L 5 (Cells _) Z223 ((show Cells [(⟨w.heap.size + 3, 0, none⟩, .int .i64 0), (⟨w.heap.size + 4, 0, none⟩, .slice none 0 0), (⟨w.heap.size + 5, 0, none⟩, .slice none 0 0)] w3 from ⟨q3, q4, q5, trivial⟩).keep (Below.refl _ _).drew) (fun hHeld => ?_)
   refine tl0 ?_ Z224 (by rfl) (fun _ _ _ => id) ?_ (by assumption) ?_; rotate_left 1; (focus exact Z225); focus try simp only [Act.put, List.setIfInBounds_toArray, List.set_cons_zero, List.set_cons_succ]
   refine tl1 ?_ Z224 (by rfl) (fun _ _ _ => id) ?_ (by assumption) ?_; rotate_left 1; (focus exact Z225); focus try simp only [Act.put, List.setIfInBounds_toArray, List.set_cons_zero, List.set_cons_succ]
   refine tl2 ?_ Z224 (by rfl) (fun _ _ _ => id) ?_ (by assumption) ?_; rotate_left 1; (focus exact Z225); focus try simp only [Act.put, List.setIfInBounds_toArray, List.set_cons_zero, List.set_cons_succ]
   refine wpAnyL_ready (rs := [3]) Z223 (by simp) (al3 (fun K hK => ?_) (AllReadyL.nil))
   focus (go_simp)
   refine hK.out _ _ (fun _ => ?_) (fun hHeld => ?_)
   ·exact Z226
   focus (have hHeld := hHeld (by decide); clear hK K; refine Zp22 ?_)
   refine wpAnyL_ready (rs := [4]) Z223 (by simp) (al4 (fun K hK => ?_) (AllReadyL.nil))
   focus (go_simp)
   refine hK.out _ _ (fun _ => ?_) (fun hHeld => ?_)
   ·exact Z226
   focus (have hHeld := hHeld (by decide); clear hK K; refine Zp22 ?_)
   refine wpAnyL_ready (rs := [5]) Z223 (by simp) (al5 (fun K hK => ?_) (AllReadyL.nil))
   focus (go_simp)
   refine hK.out _ _ (fun h => absurd rfl h) (fun _ => ?_)
   focus (clear hK K; refine Zp22 ?_)
   refine wpAnyL_done Z223 ?_ _; rotate_left 1
   go_wp2
   simp [bodyPost, results, Tryz.results19, go_sem, q3, q4, q5, f3, f4, f5]
   refine ⟨⟨_, _, rfl, own_far (own_far (own_far HRQ.out (HVP.out 3 (by omega)) _) (HVP.out 4 (by omega)) _) (HVP.out 5 (by omega)) _, own_far (own_far (own_far HRI.out (HVW.out 3 (by omega)) _) (HVW.out 4 (by omega)) _) (HVW.out 5 (by omega)) _⟩, ?_⟩
   refine Below.drew (Below.setCell (Below.setCell (Below.setCell HB3.out ?_ _) ?_ _) ?_ _)
   all_goals (dsimp only; omega)
  | some s =>
   obtain ⟨a, p, ws⟩ := s
   simp only at hr
   have hfit : (∀ x, x ∈ p → Fit x) ∧ (∀ x, x ∈ ws → In64 x) := by
    obtain ⟨t, ht, h2⟩ := bind_some' HO.out
    exact loop_fit _ (made_wf HIN.out HLEN.out.1 HLEN.out.2.1 HLEN.out.2.2 ht) h2
   have HFIT := Lib.hid hfit
   have HR := Lib.hid hr
   clear hfit hr
   refine (fits_ok2 52 _ (fun k => k = w.heap.size + 3 ∨ k = w.heap.size + 4 ∨ k = w.heap.size + 5 ∨ k = w.heap.size + 2) (fun W => W.heap[w.heap.size + 3]? = some (.cells #[.int .i64 a] 3 (0, 0)) ∧ ∃ vp vw, W.heap[w.heap.size + 4]? = some (.cells #[vp] 26 (0, 0)) ∧ W.heap[w.heap.size + 5]? = some (.cells #[vw] 23 (0, 0)) ∧ RowQ W (w1.heap.size + 1) vp p ∧ RowI W (w1.heap.size + 1) vw ws) _ (by rintro k (rfl | rfl | rfl | rfl) <;> have := HK.out <;> omega) (cf_solve _) (fun W hW hlt => (HS1.out W hW hlt).mono (fun e w' h => ⟨h.1.1, h.2, h.1.2.1, by obtain ⟨vp, vw, h1, h2, h3, h4⟩ := h.1.2.2; exact ⟨vp, vw, h1, h2, own_less h3 hlt, own_less h4 hlt⟩⟩))).mono ?_
   rintro e w3 ⟨rfl, hF3, W', ⟨hQ1, vp, vw, hQ2, hQ3, hRQ, hRI⟩, hsz, hkk⟩
   have r3 := (hkk _ (blk_lt hQ1) Z222).trans hQ1
   have r4 := (hkk _ (blk_lt hQ2) Z222).trans hQ2
   have r5 := (hkk _ (blk_lt hQ3) Z222).trans hQ3
   have hq3 : RowQ w3 (w1.heap.size + 1) vp p := own_cong hRQ (fun k hk => by obtain ⟨_, hb, hg⟩ := own_blk_ty hRQ hk; exact hkk k (blk_lt hb) (by omega))
   have hi3 : RowI w3 (w1.heap.size + 1) vw ws := own_cong hRI (fun k hk => by obtain ⟨_, hb, hg⟩ := own_blk_ty hRI hk; exact hkk k (blk_lt hb) (by omega))
   have HB3 := Lib.hid (show Below w.heap.size w w3 from HB1.out.trans (hF3.below HB1.out.size (by rintro i hi (rfl | rfl | rfl | rfl) <;> omega)))
   have hle : w.heap.size ≤ w1.heap.size + 1 := Nat.le_succ_of_le HB1.out.size
   have HVP := Lib.hid (show ∀ i, i < 6 → vp.ownBlock ≠ some (w.heap.size + i) from fun i hi h => by obtain ⟨_, _, hg⟩ := own_blk_ty hq3 h; have := HK.out; omega)
   have HVW := Lib.hid (show ∀ i, i < 6 → vw.ownBlock ≠ some (w.heap.size + i) from fun i hi h => by obtain ⟨_, _, hg⟩ := own_blk_ty hi3 h; have := HK.out; omega)
   have HRQ := Lib.hid (show RowQ w3 w.heap.size vp p from own_less hq3 hle)
   have HRI := Lib.hid (show RowI w3 w.heap.size vw ws from own_less hi3 hle)
   obtain ⟨Ap, cp, rfl, hcp, hCp⟩ := Kd.R_reads (RowQ.toR HRQ.out)
   obtain ⟨Aw, cw, rfl, hcw, hCw⟩ := Kd.R_reads (RowI.toR HRI.out)
   rw [List.length_map] at hcp r4 HRQ HVP
   have HCP := Lib.hid (CheckPoint_any l (p.map ofQ) A Ap c cp w3 (Kd.C_below HC.out HB3.out) HCC.out hCp (by rw [List.length_map]; exact hcp) HIN.out (fun x hx => by
    obtain ⟨y, hy, rfl⟩ := List.mem_map.1 hx
    exact fit64 (HFIT.out.1 y hy)))
   have HCF := Lib.hid (CheckFarkas_any l ws A Aw c cw w3 (Kd.C_below HC.out HB3.out) HCC.out hCw hcw HIN.out HFIT.out.2)
   rw [chkP_of HFIT.out.1, List.length_map] at HCP
   rw [chkF_is] at HCF
   have q0 : w3.cell? ⟨w.heap.size, 0, none⟩ = some (.slice A l.length c) := by
    have hk := hF3.block w.heap.size (blk_lt HX.out.kr) (by rintro (h | h | h | h) <;> omega)
    exact blk_cell (hk.trans HX.out.kr) 0
   have R3 := Lib.hid r3
   have R4 := Lib.hid r4
   have R5 := Lib.hid r5
   have q3 : w3.cell? ⟨w.heap.size + 3, 0, none⟩ = some (.int .i64 a) := blk_cell R3.out 0
   have q4 : w3.cell? ⟨w.heap.size + 4, 0, none⟩ = some (.slice Ap p.length cp) := blk_cell R4.out 0
   have q5 : w3.cell? ⟨w.heap.size + 5, 0, none⟩ = some (.slice Aw ws.length cw) := blk_cell R5.out 0
   have f3 : w3.frozen? ⟨w.heap.size + 3, 0, none⟩ = false := blk_frozen R3.out 0
   have f4 : w3.frozen? ⟨w.heap.size + 4, 0, none⟩ = false := blk_frozen R4.out 0
   have f5 : w3.frozen? ⟨w.heap.size + 5, 0, none⟩ = false := blk_frozen R5.out 0
   clear hF3 hQ1 hQ2 hQ3 hRQ hRI hsz hkk r3 r4 r5 hq3 hi3 hle hcp hcw hCp hCw
   obtain ⟨b1, hb1⟩ : ∃ b1, checkPoint (l.map toZ) p = b1 := ⟨_, rfl⟩
   obtain ⟨b2, hb2⟩ : ∃ b2, checkFarkas (l.map toZ) ws = b2 := ⟨_, rfl⟩
   have hr := HR.out
   rw [hb1, hb2] at hr
   rw [hb1] at HCP
   rw [hb2] at HCF
   clear hb1 hb2
   by_cases ha : a = 1
   ·subst ha
    cases b1 with
    | true =>
     rw [if_neg (by rintro (⟨_, h⟩ | ⟨h, _⟩); cases h; omega)] at hr
     subst hr
     go_wp2_with fail
     refine HCP.out.mono ?_
     rintro e w4 ⟨rfl, hb4⟩
     have HB3 := Lib.hid (HB3.out.trans (hb4.mono HB3.out.size))
     have R3 := Lib.hid (blk_below R3.out hb4)
     have R4 := Lib.hid (blk_below R4.out hb4)
     have R5 := Lib.hid (blk_below R5.out hb4)
     have HRQ := Lib.hid (HRQ.out.below hb4)
     have HRI := ri_keep HRI hb4
     clear q3 q4 q5 f3 f4 f5 hb4
     have q3 : w4.cell? ⟨w.heap.size + 3, 0, none⟩ = some (.int .i64 1) := blk_cell R3.out 0
     have q4 : w4.cell? ⟨w.heap.size + 4, 0, none⟩ = some (.slice Ap p.length cp) := blk_cell R4.out 0
     have q5 : w4.cell? ⟨w.heap.size + 5, 0, none⟩ = some (.slice Aw ws.length cw) := blk_cell R5.out 0
     have f3 : w4.frozen? ⟨w.heap.size + 3, 0, none⟩ = false := blk_frozen R3.out 0
     have f4 : w4.frozen? ⟨w.heap.size + 4, 0, none⟩ = false := blk_frozen R4.out 0
     have f5 : w4.frozen? ⟨w.heap.size + 5, 0, none⟩ = false := blk_frozen R5.out 0
     go_wp2_with fail
     refine wp_region_L 5 (Cells _) Z223 ((show Cells [(⟨w.heap.size + 3, 0, none⟩, .int .i64 1), (⟨w.heap.size + 4, 0, none⟩, .slice Ap p.length cp), (⟨w.heap.size + 5, 0, none⟩, .slice Aw ws.length cw)] w4 from ⟨q3, q4, q5, trivial⟩).keep (Below.refl _ _).drew) (fun hHeld => ?_)
     refine tl0 ?_ Z224 (by rfl) (fun _ _ _ => id) ?_ (by assumption) ?_; rotate_left 1; (focus exact Z225); focus try simp only [Act.put, List.setIfInBounds_toArray, List.set_cons_zero, List.set_cons_succ]
     refine tl1 ?_ Z224 (by rfl) (fun _ _ _ => id) ?_ (by assumption) ?_; rotate_left 1; (focus exact Z225); focus try simp only [Act.put, List.setIfInBounds_toArray, List.set_cons_zero, List.set_cons_succ]
     refine tl2 ?_ Z224 (by rfl) (fun _ _ _ => id) ?_ (by assumption) ?_; rotate_left 1; (focus exact Z225); focus try simp only [Act.put, List.setIfInBounds_toArray, List.set_cons_zero, List.set_cons_succ]
     refine wpAnyL_ready (rs := [3]) Z223 (by simp) (al3 (fun K hK => ?_) (AllReadyL.nil))
     focus (go_simp)
     refine hK.out _ _ (fun _ => ?_) (fun hHeld => ?_)
     ·exact Z226
     focus (have hHeld := hHeld (by decide); clear hK K; refine Zp22 ?_)
     refine wpAnyL_ready (rs := [4]) Z223 (by simp) (al4 (fun K hK => ?_) (AllReadyL.nil))
     focus (go_simp)
     refine hK.out _ _ (fun _ => ?_) (fun hHeld => ?_)
     ·exact Z226
     focus (have hHeld := hHeld (by decide); clear hK K; refine Zp22 ?_)
     refine wpAnyL_ready (rs := [5]) Z223 (by simp) (al5 (fun K hK => ?_) (AllReadyL.nil))
     focus (go_simp)
     refine hK.out _ _ (fun h => absurd rfl h) (fun _ => ?_)
     focus (clear hK K; refine Zp22 ?_)
     refine wpAnyL_done Z223 ?_ _; rotate_left 1
     go_wp2
     simp [bodyPost, results, Tryz.results19, go_sem, q3, q4, q5, f3, f4, f5]
     refine ⟨⟨_, _, rfl, own_far (own_far (own_far HRQ.out (HVP.out 3 (by omega)) _) (HVP.out 4 (by omega)) _) (HVP.out 5 (by omega)) _, own_far (own_far (own_far HRI.out (HVW.out 3 (by omega)) _) (HVW.out 4 (by omega)) _) (HVW.out 5 (by omega)) _⟩, ?_⟩
     refine Below.drew (Below.setCell (Below.setCell (Below.setCell HB3.out ?_ _) ?_ _) ?_ _)
     all_goals (dsimp only; omega)
    | false =>
     rw [if_pos (.inl ⟨rfl, rfl⟩)] at hr
     subst hr
     go_wp2_with fail
     refine HCP.out.mono ?_
     rintro e w4 ⟨rfl, hb4⟩
     have HB3 := Lib.hid (HB3.out.trans (hb4.mono HB3.out.size))
     have R3 := Lib.hid (blk_below R3.out hb4)
     have R4 := Lib.hid (blk_below R4.out hb4)
     have R5 := Lib.hid (blk_below R5.out hb4)
     have HRQ := Lib.hid (HRQ.out.below hb4)
     have HRI := ri_keep HRI hb4
     clear q3 q4 q5 f3 f4 f5 hb4
     have q3 : w4.cell? ⟨w.heap.size + 3, 0, none⟩ = some (.int .i64 1) := blk_cell R3.out 0
     have q4 : w4.cell? ⟨w.heap.size + 4, 0, none⟩ = some (.slice Ap p.length cp) := blk_cell R4.out 0
     have q5 : w4.cell? ⟨w.heap.size + 5, 0, none⟩ = some (.slice Aw ws.length cw) := blk_cell R5.out 0
     have f3 : w4.frozen? ⟨w.heap.size + 3, 0, none⟩ = false := blk_frozen R3.out 0
     have f4 : w4.frozen? ⟨w.heap.size + 4, 0, none⟩ = false := blk_frozen R4.out 0
     have f5 : w4.frozen? ⟨w.heap.size + 5, 0, none⟩ = false := blk_frozen R5.out 0
     go_wp2
     simp [bodyPost, results, Tryz.results19, go_sem, q3, q4, q5, f3, f4, f5]
     refine ⟨⟨_, _, rfl, nilQ _ _, nilI _ _⟩, ?_⟩
     refine Below.setCell (Below.setCell (Below.setCell HB3.out ?_ _) ?_ _) ?_ _
     all_goals (dsimp only; omega)
   ·have e1 : (a = 1) = False := eq_false ha
    have e1b : (a == 1) = false := beq_eq_false_iff_ne.2 ha
    by_cases ha2 : a = 2
    ·subst ha2
     clear e1 e1b ha
     cases b2 with
     | true =>
      rw [if_neg (by rintro (⟨h, _⟩ | ⟨_, h⟩); omega; cases h)] at hr
      subst hr
      go_wp2_with fail
      refine HCF.out.mono ?_
      rintro e w4 ⟨rfl, hb4⟩
      have HB3 := Lib.hid (HB3.out.trans (hb4.mono HB3.out.size))
      have R3 := Lib.hid (blk_below R3.out hb4)
      have R4 := Lib.hid (blk_below R4.out hb4)
      have R5 := Lib.hid (blk_below R5.out hb4)
      have HRQ := Lib.hid (HRQ.out.below hb4)
      have HRI := ri_keep HRI hb4
      clear q3 q4 q5 f3 f4 f5 hb4
      have q3 : w4.cell? ⟨w.heap.size + 3, 0, none⟩ = some (.int .i64 2) := blk_cell R3.out 0
      have q4 : w4.cell? ⟨w.heap.size + 4, 0, none⟩ = some (.slice Ap p.length cp) := blk_cell R4.out 0
      have q5 : w4.cell? ⟨w.heap.size + 5, 0, none⟩ = some (.slice Aw ws.length cw) := blk_cell R5.out 0
      have f3 : w4.frozen? ⟨w.heap.size + 3, 0, none⟩ = false := blk_frozen R3.out 0
      have f4 : w4.frozen? ⟨w.heap.size + 4, 0, none⟩ = false := blk_frozen R4.out 0
      have f5 : w4.frozen? ⟨w.heap.size + 5, 0, none⟩ = false := blk_frozen R5.out 0
      go_wp2_with fail
      refine wp_region_L 5 (Cells _) Z223 ((show Cells [(⟨w.heap.size + 3, 0, none⟩, .int .i64 2), (⟨w.heap.size + 4, 0, none⟩, .slice Ap p.length cp), (⟨w.heap.size + 5, 0, none⟩, .slice Aw ws.length cw)] w4 from ⟨q3, q4, q5, trivial⟩).keep (Below.refl _ _).drew) (fun hHeld => ?_)
      refine tl0 ?_ Z224 (by rfl) (fun _ _ _ => id) ?_ (by assumption) ?_; rotate_left 1; (focus exact Z225); focus try simp only [Act.put, List.setIfInBounds_toArray, List.set_cons_zero, List.set_cons_succ]
      refine tl1 ?_ Z224 (by rfl) (fun _ _ _ => id) ?_ (by assumption) ?_; rotate_left 1; (focus exact Z225); focus try simp only [Act.put, List.setIfInBounds_toArray, List.set_cons_zero, List.set_cons_succ]
      refine tl2 ?_ Z224 (by rfl) (fun _ _ _ => id) ?_ (by assumption) ?_; rotate_left 1; (focus exact Z225); focus try simp only [Act.put, List.setIfInBounds_toArray, List.set_cons_zero, List.set_cons_succ]
      refine wpAnyL_ready (rs := [3]) Z223 (by simp) (al3 (fun K hK => ?_) (AllReadyL.nil))
      focus (go_simp)
      refine hK.out _ _ (fun _ => ?_) (fun hHeld => ?_)
      ·exact Z226
      focus (have hHeld := hHeld (by decide); clear hK K; refine Zp22 ?_)
      refine wpAnyL_ready (rs := [4]) Z223 (by simp) (al4 (fun K hK => ?_) (AllReadyL.nil))
      focus (go_simp)
      refine hK.out _ _ (fun _ => ?_) (fun hHeld => ?_)
      ·exact Z226
      focus (have hHeld := hHeld (by decide); clear hK K; refine Zp22 ?_)
      refine wpAnyL_ready (rs := [5]) Z223 (by simp) (al5 (fun K hK => ?_) (AllReadyL.nil))
      focus (go_simp)
      refine hK.out _ _ (fun h => absurd rfl h) (fun _ => ?_)
      focus (clear hK K; refine Zp22 ?_)
      refine wpAnyL_done Z223 ?_ _; rotate_left 1
      go_wp2
      simp [bodyPost, results, Tryz.results19, go_sem, q3, q4, q5, f3, f4, f5]
      refine ⟨⟨_, _, rfl, own_far (own_far (own_far HRQ.out (HVP.out 3 (by omega)) _) (HVP.out 4 (by omega)) _) (HVP.out 5 (by omega)) _, own_far (own_far (own_far HRI.out (HVW.out 3 (by omega)) _) (HVW.out 4 (by omega)) _) (HVW.out 5 (by omega)) _⟩, ?_⟩
      refine Below.drew (Below.setCell (Below.setCell (Below.setCell HB3.out ?_ _) ?_ _) ?_ _)
      all_goals (dsimp only; omega)
     | false =>
      rw [if_pos (.inr ⟨rfl, rfl⟩)] at hr
      subst hr
      go_wp2_with fail
      refine HCF.out.mono ?_
      rintro e w4 ⟨rfl, hb4⟩
      have HB3 := Lib.hid (HB3.out.trans (hb4.mono HB3.out.size))
      have R3 := Lib.hid (blk_below R3.out hb4)
      have R4 := Lib.hid (blk_below R4.out hb4)
      have R5 := Lib.hid (blk_below R5.out hb4)
      have HRQ := Lib.hid (HRQ.out.below hb4)
      have HRI := ri_keep HRI hb4
      clear q3 q4 q5 f3 f4 f5 hb4
      have q3 : w4.cell? ⟨w.heap.size + 3, 0, none⟩ = some (.int .i64 2) := blk_cell R3.out 0
      have q4 : w4.cell? ⟨w.heap.size + 4, 0, none⟩ = some (.slice Ap p.length cp) := blk_cell R4.out 0
      have q5 : w4.cell? ⟨w.heap.size + 5, 0, none⟩ = some (.slice Aw ws.length cw) := blk_cell R5.out 0
      have f3 : w4.frozen? ⟨w.heap.size + 3, 0, none⟩ = false := blk_frozen R3.out 0
      have f4 : w4.frozen? ⟨w.heap.size + 4, 0, none⟩ = false := blk_frozen R4.out 0
      have f5 : w4.frozen? ⟨w.heap.size + 5, 0, none⟩ = false := blk_frozen R5.out 0
      go_wp2
      simp [bodyPost, results, Tryz.results19, go_sem, q3, q4, q5, f3, f4, f5]
      refine ⟨⟨_, _, rfl, nilQ _ _, nilI _ _⟩, ?_⟩
      refine Below.setCell (Below.setCell (Below.setCell HB3.out ?_ _) ?_ _) ?_ _
      all_goals (dsimp only; omega)
    ·have e2 : (a = 2) = False := eq_false ha2
     have e2b : (a == 2) = false := beq_eq_false_iff_ne.2 ha2
     rw [if_neg (by rintro (⟨h, _⟩ | ⟨h, _⟩); exact ha h; exact ha2 h)] at hr
     subst hr
     clear ha ha2
     go_wp2_with fail
     refine wp_region_L 5 (Cells _) Z223 ((show Cells [(⟨w.heap.size + 3, 0, none⟩, .int .i64 a), (⟨w.heap.size + 4, 0, none⟩, .slice Ap p.length cp), (⟨w.heap.size + 5, 0, none⟩, .slice Aw ws.length cw)] w3 from ⟨q3, q4, q5, trivial⟩).keep (Below.refl _ _).drew) (fun hHeld => ?_)
     refine tl0 ?_ Z224 (by rfl) (fun _ _ _ => id) ?_ (by assumption) ?_; rotate_left 1; (focus exact Z225); focus try simp only [Act.put, List.setIfInBounds_toArray, List.set_cons_zero, List.set_cons_succ]
     refine tl1 ?_ Z224 (by rfl) (fun _ _ _ => id) ?_ (by assumption) ?_; rotate_left 1; (focus exact Z225); focus try simp only [Act.put, List.setIfInBounds_toArray, List.set_cons_zero, List.set_cons_succ]
     refine tl2 ?_ Z224 (by rfl) (fun _ _ _ => id) ?_ (by assumption) ?_; rotate_left 1; (focus exact Z225); focus try simp only [Act.put, List.setIfInBounds_toArray, List.set_cons_zero, List.set_cons_succ]
     refine wpAnyL_ready (rs := [3]) Z223 (by simp) (al3 (fun K hK => ?_) (AllReadyL.nil))
     focus (go_simp)
     refine hK.out _ _ (fun _ => ?_) (fun hHeld => ?_)
     ·exact Z226
     focus (have hHeld := hHeld (by decide); clear hK K; refine Zp22 ?_)
     refine wpAnyL_ready (rs := [4]) Z223 (by simp) (al4 (fun K hK => ?_) (AllReadyL.nil))
     focus (go_simp)
     refine hK.out _ _ (fun _ => ?_) (fun hHeld => ?_)
     ·exact Z226
     focus (have hHeld := hHeld (by decide); clear hK K; refine Zp22 ?_)
     refine wpAnyL_ready (rs := [5]) Z223 (by simp) (al5 (fun K hK => ?_) (AllReadyL.nil))
     focus (go_simp)
     refine hK.out _ _ (fun h => absurd rfl h) (fun _ => ?_)
     focus (clear hK K; refine Zp22 ?_)
     refine wpAnyL_done Z223 ?_ _; rotate_left 1
     go_wp2
     simp [bodyPost, results, Tryz.results19, go_sem, q3, q4, q5, f3, f4, f5]
     refine ⟨⟨_, _, rfl, own_far (own_far (own_far HRQ.out (HVP.out 3 (by omega)) _) (HVP.out 4 (by omega)) _) (HVP.out 5 (by omega)) _, own_far (own_far (own_far HRI.out (HVW.out 3 (by omega)) _) (HVW.out 4 (by omega)) _) (HVW.out 5 (by omega)) _⟩, ?_⟩
     refine Below.drew (Below.setCell (Below.setCell (Below.setCell HB3.out ?_ _) ?_ _) ?_ _)
     all_goals (dsimp only; omega)
end Go.Proofs.YtbpjnkeilhfajaaGreat.Ln
