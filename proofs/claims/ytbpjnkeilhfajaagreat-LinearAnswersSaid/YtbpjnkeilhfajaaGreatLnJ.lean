import Derived.Test.YtbpjnkeilhfajaaGreatLnG
import Derived.Test.YtbpjnkeilhfajaaGreatTl
section
/- linear.CheckFarkas, whole. -/
namespace Go.Proofs
theorem Z1n3 {p : Prop} (h : p := by first | exact Nat.le_refl _ | (simp; done) | (simp; omega) | omega) : p := h
theorem Z1n0 {p : Prop} (h : p := by exact (by repeat (first | exact Below.refl _ _ | with_reducible assumption | refine Below.alloc ?_ Z1n3 _ | refine Below.setCell ?_ Z1n3 _ | refine Below.drew ?_ | refine bdrewN ?_ _))) : p := h
theorem Z1n1 {p : Prop} (h : p := by first | exact Nat.le_refl _ | (simp; done) | (simp; omega) | omega) : p := h
theorem Z1n2 {p : Prop} (h : p := by repeat (first | exact Below.refl _ _ | with_reducible assumption | refine Below.alloc ?_ Z1n3 _ | refine Below.setCell ?_ Z1n3 _ | refine Below.drew ?_ | refine bdrewN ?_ _)) : p := h
end Go.Proofs
namespace Go.Proofs.YtbpjnkeilhfajaaGreat.Ln
open Go.RowKit Go.Proofs.YtbpjnkeilhfajaaGreat.Num Go.Proofs.YtbpjnkeilhfajaaGreat.Given Go.Proofs.YtbpjnkeilhfajaaGreat.Lin Go.Proofs.YtbpjnkeilhfajaaGreatW.PrintWords
set_option linter.unusedVariables false
set_option linter.unusedSimpArgs false
def chkF (l : List S40) (ws : List Int) : Bool :=
 if l.length = ws.length then
  if ws.any (fun x => decide (x < 0)) = true then false
  else if l.length = 0 then false
  else if l.any (fun x => !((x.f0.length : Int) == ((l.getD 0 z40).f0.length : Int))) = true then false
  else outB (colsP l ws (l.getD 0 z40).f0.length 0 true)
 else false
theorem add_z (ad : Addr) : ad.add 0 = ad := by
 cases ad
 unfold Addr.add
 split <;> simp_all
theorem cf_farkas (args : Array Value) (w : World) : (callFunc 46 args).run Tryz.prog w = .ok (.enter 46 args) w := by kernel_rfl
set_option maxHeartbeats 8000000 in
set_option maxRecDepth 100000 in
theorem CheckFarkas_any (l : List S40) (ws : List Int) (A A' : Option Addr) (c c' : Nat) (w : World) (hC : Kd.C k40 w A l.length l) (hc : l.length ≤ c) (hV : (Kd.int .i64).C w A' ws.length ws) (hc' : ws.length ≤ c')
  (hin : ∀ r, r ∈ l → In64 r.f1 ∧ ∀ x, x ∈ r.f0 → In64 x) (hws : ∀ x, x ∈ ws → In64 x) :
  Calls Tryz.prog 17 #[.slice A l.length c, .slice A' ws.length c'] w fun e w' => e = .returned (.bool (chkF l ws)) ∧ Below w.heap.size w w' := by
 unfold chkF
 by_cases hl : l.length = ws.length
 ·rw [if_pos hl]
  have e1 : ((l.length : Int) = (ws.length : Int)) = True := eq_true (by rw [hl])
  have HA := Lib.hid (fun W (hW : Below w.heap.size w W) => anyI (fun x => decide (x < 0)) ws A' c' w W hV hc' hW (fun x hx W2 _ => farkas1_any x W2))
  cases hany : ws.any (fun x => decide (x < 0)) with
  | true =>
   rw [hany] at HA
   rw [if_pos rfl]
   have HL := Lib.hid hl
   clear hC hV hin hws hany hl
   go_enter Tryz.func17, Tryz.ntmps17
   go_wp2_with fail
   refine (HA.out _ ?_).mono ?_
   ·exact Z1n0
   rintro e w1 ⟨rfl, hb1⟩
   go_wp2
   go_ret
   exact ⟨rfl, by refine Below.trans ?_ (hb1.mono Z1n1); exact Z1n2⟩
  | false =>
   rw [hany] at HA
   rw [if_neg (by decide)]
   by_cases h0 : l.length = 0
   ·rw [if_pos h0]
    have e2 : ((l.length : Int) == 0) = true := by rw [h0]; rfl
    have HL := Lib.hid hl
    clear hC hV hin hws hany hl h0
    go_enter Tryz.func17, Tryz.ntmps17
    go_wp2_with fail
    refine (HA.out _ ?_).mono ?_
    ·exact Z1n0
    rintro e w1 ⟨rfl, hb1⟩
    have hz1 := hb1.size
    simp at hz1
    have k1 := hb1.block w.heap.size (by simp; omega)
    rw [blk_alloc (blk_new w _) _] at k1
    have q1 : w1.cell? ⟨w.heap.size, 0, none⟩ = some (.slice A l.length c) := blk_cell k1 0
    have HB1 := Lib.hid (show Below w.heap.size w w1 by refine Below.trans ?_ (hb1.mono Z1n1); exact Z1n2)
    clear hb1 k1
    go_wp2
    go_ret
    exact ⟨rfl, HB1.out⟩
   ·rw [if_neg h0]
    have e2 : ((l.length : Int) == 0) = false := beq_eq_false_iff_ne.2 (by omega)
    have e1b : ((l.length : Int) != (ws.length : Int)) = false := by rw [hl]; simp
    have hpos : 0 < l.length := by omega
    obtain ⟨ad, B, d, e, x0, _, l', _⟩ := el_R hC hpos
    rw [show l.getD 0 z40 = l[0] by simp [List.getElem?_eq_getElem hpos]]
    obtain ⟨n, hn⟩ : ∃ n, l[0].f0.length = n := ⟨_, rfl⟩
    have hmax := Kd.C_max ‹(Kd.int .i64).C w B l[0].f0.length l[0].f0›
    rw [hn] at x0 l' hmax ⊢
    rw [Nat.zero_mul] at x0
    have zx := World.block_lt_of_cell? w _ x0
    have HX0 := Lib.hid x0
    subst e
    have HR := Lib.hid (fun nb w2 (hB : Below w.heap.size w w2) (hnb : w2.cell? ⟨nb, 0, none⟩ = some (.int .i64 n)) => anyR (fun x => !((x.f0.length : Int) == (n : Int))) l (some ad) c (.pointer (some ⟨nb, 0, none⟩)) w w2 hC hc hB (fun x hx B d W hW => farkas2_any x B d nb n W (kcell hW hnb)))
    have HF := Lib.hid (fun (hn : ∀ r, r ∈ l → r.f0.length = n) => fun nb ab rb wb w2 hB h1 h2 h3 h4 ha hna hra hwa => farkas3_any l ws n (some ad) A' c c' nb ab rb wb w w2 hC hc hV hc' hB hl hin hn hmax hws h1 h2 h3 h4 ha hna hra hwa)
    obtain ⟨o, ho⟩ : ∃ o, colsP l ws n 0 true = o := ⟨_, rfl⟩
    rw [ho] at HF ⊢
    obtain ⟨bb, hbb⟩ : ∃ bb, l.any (fun x => !((x.f0.length : Int) == (n : Int))) = bb := ⟨_, rfl⟩
    rw [hbb] at HR ⊢
    have HBB := Lib.hid hbb
    clear hbb
    have HL := Lib.hid hl
    have H0 := Lib.hid h0
    clear hC hV hin hws hany hl h0 x0 hn ho
    go_enter Tryz.func17, Tryz.ntmps17
    go_wp2_with fail
    refine (HA.out _ ?_).mono ?_
    ·exact Z1n0
    rintro e w1 ⟨rfl, hb1⟩
    have hz1 := hb1.size
    simp at hz1
    have k1 := hb1.block w.heap.size (by simp; omega)
    rw [blk_alloc (blk_new w _) _] at k1
    have k2 := hb1.block (w.heap.size + 1) (by simp)
    rw [show w.heap.size + 1 = (w.alloc (.cells #[.slice (some ad) l.length c] 22)).heap.size by simp, blk_new] at k2
    have q1 : w1.cell? ⟨w.heap.size, 0, none⟩ = some (.slice (some ad) l.length c) := blk_cell k1 0
    have HB1 := Lib.hid (show Below w.heap.size w w1 by refine Below.trans ?_ (hb1.mono Z1n1); exact Z1n2)
    have x0 : w1.cell? ad = some (.slice B n d) := by have h := kcell HB1.out HX0.out; rwa [add_z] at h
    have hlt1 : w.heap.size < w1.heap.size := by omega
    have hne1 : w.heap.size ≠ w1.heap.size := by omega
    have hlt2 : w.heap.size + 1 < w1.heap.size := by omega
    have hne2 : w.heap.size + 1 ≠ w1.heap.size := by omega
    have K1 := Lib.hid k1
    have K2 := Lib.hid k2
    clear hb1 k1 k2
    go_wp2_with fail
    have hnb : (w1.alloc (.cells #[.int .i64 n] 3)).cell? ⟨w1.heap.size, 0, none⟩ = some (.int .i64 n) := blk_cell (blk_new w1 _) 0
    have HB2 := Lib.hid (HB1.out.alloc HB1.out.size (.cells #[.int .i64 n] 3))
    have hr := HR.out w1.heap.size _ HB2.out hnb
    cases bb with
    | true =>
     refine hr.mono ?_
     rintro e w2 ⟨rfl, hb2⟩
     have HB3 := Lib.hid (HB2.out.trans (hb2.mono HB2.out.size))
     clear hb2 hr
     go_wp2
     go_ret
     exact ⟨rfl, HB3.out⟩
    | false =>
     refine hr.mono ?_
     rintro e w2 ⟨rfl, hb2⟩
     have hz2 := hb2.size
     simp at hz2
     have HB3 := Lib.hid (HB2.out.trans (hb2.mono HB2.out.size))
     have n1 := Lib.hid ((hb2.block _ (by simp; omega)).trans (blk_alloc K1.out _))
     have n2 := Lib.hid ((hb2.block _ (by simp; omega)).trans (blk_alloc K2.out _))
     have n3 := Lib.hid ((hb2.block _ (by simp)).trans (blk_new w1 (.cells #[.int .i64 n] 3)))
     clear hb2 hr hnb
     go_wp2_with fail
     have hrow : ∀ r, r ∈ l → r.f0.length = n := by
      intro r hr
      have := List.any_eq_false.1 HBB.out r hr
      simp at this
      omega
     have hne : w2.heap.size ≠ (w2.alloc (.cells #[.bool true] 4)).heap.size := by simp
     have HN := Lib.hid hne
     clear hne
     have hcall : ∀ W, Below (w2.alloc (.cells #[.bool true] 4)).heap.size (w2.alloc (.cells #[.bool true] 4)) W → Calls Tryz.prog 46 #[.pointer (some ⟨w1.heap.size, 0, none⟩), .pointer (some ⟨w2.heap.size, 0, none⟩), .pointer (some ⟨w.heap.size, 0, none⟩), .pointer (some ⟨w.heap.size + 1, 0, none⟩)] W fun e w' => PointEnd w2.heap.size o e w' ∧ Fp (fun k => k = w2.heap.size) W w' := by
      intro W hW
      refine HF.out hrow _ _ _ _ W (((HB3.out.alloc HB3.out.size _)).trans (hW.mono (by simp; omega))) ((hW.block _ (by simp; omega)).trans (blk_alloc n3.out _)) ((hW.block _ (by simp)).trans (blk_new _ _)) ((hW.block _ (by simp; omega)).trans (blk_alloc n1.out _)) ((hW.block _ (by simp; omega)).trans (blk_alloc ?_ _)) (by omega) (by omega) (by omega) (by omega)
      have := n2.out
      simpa using this
     have HC := Lib.hid hcall
     clear hcall hrow
     cases o with
     | none =>
      refine (fits_no 46 _ (fun k => k = w2.heap.size) (fun _ => True) _ (by rintro k rfl; simp) (cf_farkas _) (fun W hW => (HC.out W hW).mono (fun e w' h => ⟨h.1, h.2, trivial⟩))).mono ?_
      rintro e w3 ⟨rfl, hF, _⟩
      have HF3 := Lib.hid hF
      clear hF
      go_wp2
      go_ret
      exact ⟨rfl, (HB3.out.alloc HB3.out.size _).trans (HF3.out.below (by simp; omega) (by intro i hi he; omega))⟩
     | some b =>
      refine (fits_ok 46 _ (fun k => k = w2.heap.size) (fun W => W.heap[w2.heap.size]? = some (.cells #[.bool b] 4 (0, 0))) _ (by rintro k rfl; simp) (cf_farkas _) (fun W hW => (HC.out W hW).mono (fun e w' h => ⟨h.1.1, h.2, h.1.2⟩))).mono ?_
      rintro e w3 ⟨rfl, hF, W', hQ, hsz, hk⟩
      have q3 : w3.cell? ⟨w2.heap.size, 0, none⟩ = some (.bool b) := blk_cell ((hk _ (blk_lt hQ) HN.out).trans hQ) 0
      have HF3 := Lib.hid hF
      clear hF hk hQ hsz
      go_wp2
      go_ret
      exact ⟨rfl, (HB3.out.alloc HB3.out.size _).trans (HF3.out.below (by simp; omega) (by intro i hi he; omega))⟩
 ·rw [if_neg hl]
  have e1 : ((l.length : Int) = (ws.length : Int)) = False := eq_false (fun h => hl (by omega))
  have HL := Lib.hid hl
  clear hC hV hin hws hl
  go_enter Tryz.func17, Tryz.ntmps17
  go_wp2
  go_ret
  exact ⟨rfl, Z1n2⟩
end Go.Proofs.YtbpjnkeilhfajaaGreat.Ln
end

section
/- chkF is checkFarkas. -/
namespace Go.Proofs.YtbpjnkeilhfajaaGreat.Ln
open Go.RowKit Go.Proofs.YtbpjnkeilhfajaaGreat.Num Go.Proofs.YtbpjnkeilhfajaaGreat.Given Go.Proofs.YtbpjnkeilhfajaaGreat.Lin Go.Proofs.YtbpjnkeilhfajaaGreatW.PrintWords
set_option linter.unusedVariables false
set_option linter.unusedSimpArgs false
theorem colsP_false (l : List S40) (ws : List Int) : ∀ d i, colsP l ws d i false = some false
 | 0, i => by rw [colsP, if_neg (by decide)]
 | d + 1, i => by rw [colsP, if_neg (by decide), colsP_false l ws d (i + 1)]
theorem colsP_true (l : List S40) (ws : List Int) : ∀ d i, outB (colsP l ws d i true) =
  ((List.range' i d).all (fun k => weighF ws (l.map fun r => r.f0.getD k 0) 0 == some 0) && match weighF ws (l.map fun r => r.f1) 0 with | some s => decide (0 < s) | none => false)
 | 0, i => by
  rw [colsP, if_pos rfl, List.range'_zero, List.all_nil, Bool.true_and]
  cases weighF ws (l.map fun r => r.f1) 0 <;> rfl
 | d + 1, i => by
  rw [colsP, if_pos rfl, List.range'_succ, List.all_cons]
  cases h : weighF ws (l.map fun r => r.f0.getD i 0) 0 with
  | none => rfl
  | some s =>
   rw [Option.bind_some]
   cases hs : (s == 0) with
   | true =>
    have e : s = 0 := by simpa using hs
    subst e
    rw [colsP_true l ws d (i + 1)]
    simp
   | false =>
    rw [colsP_false]
    have e : s ≠ 0 := by simpa using hs
    simp [outB, e]
theorem chkF_is (l : List S40) (ws : List Int) : chkF l ws = checkFarkas (l.map toZ) ws := by
 unfold chkF checkFarkas
 by_cases h1 : l.length = ws.length
 ·rw [if_pos h1, List.length_map, decide_eq_true h1, Bool.true_and]
  have e2 : (ws.all fun x => decide (0 ≤ x)) = !(ws.any fun x => decide (x < 0)) := by
   rw [List.all_eq_not_any_not]
   congr 1
   congr 1
   funext x
   by_cases h : x < 0
   ·simp [h]
   ·simp [h]; omega
  rw [e2]
  cases ws.any (fun x => decide (x < 0)) with
  | true => rw [if_pos rfl]; rfl
  | false =>
   rw [if_neg (by decide)]
   cases l with
   | nil => rfl
   | cons r l =>
    rw [if_neg (by simp)]
    have e3 : (((r :: l).map toZ).all fun q => decide (q.1.length = widthZ ((r :: l).map toZ))) = !((r :: l).any fun x => !((x.f0.length : Int) == (((r :: l).getD 0 z40).f0.length : Int))) := by
     show _ = !((r :: l).any fun x => !((x.f0.length : Int) == (r.f0.length : Int)))
     rw [List.all_map, List.all_eq_not_any_not]
     congr 1
     congr 1
     funext x
     show (!decide (x.f0.length = r.f0.length)) = _
     by_cases h : x.f0.length = r.f0.length
     ·simp [h]
     ·simp [h]; omega
    rw [e3]
    have e4 : decide ((r :: l).map toZ ≠ []) = true := by simp
    rw [e4]
    cases (r :: l).any (fun x => !((x.f0.length : Int) == (((r :: l).getD 0 z40).f0.length : Int))) with
    | true => rw [if_pos rfl]; rfl
    | false =>
     rw [if_neg (by decide)]
     show outB (colsP (r :: l) ws r.f0.length 0 true) = _
     rw [colsP_true, ← List.range_eq_range']
     unfold colZ kZ
     simp only [Bool.not_false, Bool.true_and, Bool.and_true, List.map_map]
     rfl
 ·rw [if_neg h1, List.length_map, decide_eq_false h1]; rfl
end Go.Proofs.YtbpjnkeilhfajaaGreat.Ln
end

section
/- linear.may. -/
namespace Go.Proofs
theorem Z1q0 {p : Prop} (h : p := by repeat (first | exact Below.refl _ _ | with_reducible assumption | refine Below.alloc ?_ (by first | exact Nat.le_refl _ | (simp; done) | (simp; omega) | omega) _ | refine Below.setCell ?_ (by first | exact Nat.le_refl _ | (simp; done) | (simp; omega) | omega) _ | refine Below.drew ?_ | refine bdrewN ?_ _)) : p := h
theorem Z1q1 {p : Prop} (h : p := by first | exact Nat.le_refl _ | (simp; done) | (simp; omega) | omega) : p := h
end Go.Proofs
namespace Go.Proofs.YtbpjnkeilhfajaaGreat.Ln
open Go.RowKit Go.Proofs.YtbpjnkeilhfajaaGreat.Num Go.Proofs.YtbpjnkeilhfajaaGreat.Given Go.Proofs.YtbpjnkeilhfajaaGreat.Lin Go.Proofs.YtbpjnkeilhfajaaGreatW.PrintWords
set_option linter.unusedVariables false
set_option linter.unusedSimpArgs false
def mayB (l : List S40) (v : Int) : Bool :=
 if 0 ≤ v then if v ≤ 64 then if (l.length : Int) ≤ 256 then !(l.any fun x => !((x.f0.length : Int) == v)) else false else false else false
theorem mayB_is (l : List S40) (v : Int) : mayB l v = mayQ (l.map toZ) v := by
 unfold mayB mayQ
 have e3 : ((l.map toZ).all fun q => decide ((q.1.length : Int) = v)) = !(l.any fun x => !((x.f0.length : Int) == v)) := by
  rw [List.all_map, List.all_eq_not_any_not]
  have : (fun x : S40 => !((fun q : RowZ => decide ((q.1.length : Int) = v)) ∘ toZ) x) = fun x => !((x.f0.length : Int) == v) := by
   funext x
   show (!decide ((x.f0.length : Int) = v)) = _
   by_cases h : (x.f0.length : Int) = v
   ·simp [h]
   ·simp [h]
  rw [this]
 rw [e3, List.length_map]
 by_cases h0 : 0 ≤ v
 ·by_cases h1 : v ≤ 64
  ·by_cases h2 : (l.length : Int) ≤ 256
   ·rw [if_pos h0, if_pos h1, if_pos h2]; simp [h0, h1, show l.length ≤ 256 by omega]
   ·rw [if_pos h0, if_pos h1, if_neg h2]; simp [h0, h1, show ¬ l.length ≤ 256 by omega]
  ·rw [if_pos h0, if_neg h1]; simp [h0, h1]
 ·rw [if_neg h0]; simp [h0]
set_option maxHeartbeats 8000000 in
set_option maxRecDepth 100000 in
theorem may_any (l : List S40) (v : Int) (A : Option Addr) (c : Nat) (w : World) (hC : Kd.C k40 w A l.length l) (hc : l.length ≤ c) :
  Calls Tryz.prog 51 #[.slice A l.length c, .int .i64 v] w fun e w' => e = .returned (.bool (mayB l v)) ∧ Below w.heap.size w w' := by
 have hmf := run_makeFunc
 have HR := Lib.hid (fun nb w2 (hB : Below w.heap.size w w2) (hnb : w2.cell? ⟨nb, 0, none⟩ = some (.int .i64 v)) => anyM (fun x => !((x.f0.length : Int) == v)) l A c (.pointer (some ⟨nb, 0, none⟩)) w w2 hC hc hB (fun x hx B d W hW => may1_any x B d nb v W (kcell hW hnb)))
 clear hC
 unfold mayB
 by_cases h0 : 0 ≤ v
 ·by_cases h1 : v ≤ 64
  ·by_cases h2 : (l.length : Int) ≤ 256
   ·rw [if_pos h0, if_pos h1, if_pos h2]
    have e0 : decide (0 ≤ v) = true := decide_eq_true h0
    have e1 : decide (v ≤ 64) = true := decide_eq_true h1
    have e2 : decide ((l.length : Int) ≤ 256) = true := decide_eq_true h2
    clear h0 h1 h2
    go_enter Tryz.func51, Tryz.ntmps51
    go_wp2_with fail
    refine (HR.out _ _ ?_ ?_).mono ?_
    ·exact Z1q0
    ·exact blk_cell (blk_new w _) 0
    rintro e w1 ⟨rfl, hb1⟩
    go_wp2
    go_ret
    exact ⟨rfl, by refine Below.trans ?_ (hb1.mono Z1q1); exact Z1q0⟩
   ·rw [if_pos h0, if_pos h1, if_neg h2]
    have e0 : decide (0 ≤ v) = true := decide_eq_true h0
    have e1 : decide (v ≤ 64) = true := decide_eq_true h1
    have e2 : decide ((l.length : Int) ≤ 256) = false := decide_eq_false h2
    clear h0 h1 h2
    go_enter Tryz.func51, Tryz.ntmps51
    go_wp2
    go_ret
    exact ⟨rfl, Z1q0⟩
  ·rw [if_pos h0, if_neg h1]
   have e0 : decide (0 ≤ v) = true := decide_eq_true h0
   have e1 : decide (v ≤ 64) = false := decide_eq_false h1
   clear h0 h1
   go_enter Tryz.func51, Tryz.ntmps51
   go_wp2
   go_ret
   exact ⟨rfl, Z1q0⟩
 ·rw [if_neg h0]
  have e0 : decide (0 ≤ v) = false := decide_eq_false h0
  clear h0
  go_enter Tryz.func51, Tryz.ntmps51
  go_wp2
  go_ret
  exact ⟨rfl, Z1q0⟩
end Go.Proofs.YtbpjnkeilhfajaaGreat.Ln
end

section
/- linear's CheckPoint and CheckFarkas, in the form in which a printed text meets a callee. -/
namespace Go.Proofs.YtbpjnkeilhfajaaGreat.Given
open Go.RowKit Go.Proofs.YtbpjnkeilhfajaaGreat.Num Go.Proofs.YtbpjnkeilhfajaaGreat.Ln Go.Proofs.YtbpjnkeilhfajaaGreatW.PrintWords
def RowIn (r : S40) : Prop := In64 r.f1 ∧ ∀ x, x ∈ r.f0 → In64 x
instance (r : S40) : Decidable (RowIn r) := by unfold RowIn In64; infer_instance
def RatIn (x : S28) : Prop := In64 x.f0 ∧ In64 x.f1
instance (x : S28) : Decidable (RatIn x) := by unfold RatIn In64; infer_instance
instance (x : Int) : Decidable (In64 x) := by unfold In64; infer_instance
def linear_CheckPoint.f (l0 : List S40) (l1 : List S28) : Option Bool := if (∀ r, r ∈ l0 → RowIn r) ∧ ∀ x, x ∈ l1 → RatIn x then some (chkP l0 l1) else none
theorem linear_CheckPoint.calls (A0 : Option Addr) (c0 : Nat) (l0 : List S40) (A1 : Option Addr) (c1 : Nat) (l1 : List S28) (r : Bool) (w : World) (hr0 : Kd.C k40 w A0 l0.length l0) (hc0 : l0.length ≤ c0) (hr1 : Kd.C k28 w A1 l1.length l1) (hc1 : l1.length ≤ c1) (h : linear_CheckPoint.f l0 l1 = some r) :
  Calls Tryz.prog 15 #[.slice A0 l0.length c0, .slice A1 l1.length c1] w fun e w' => e = .returned (.bool r) ∧ Below w.heap.size w w' := by
 unfold linear_CheckPoint.f at h
 split at h
 ·rename_i hd
  rw [← Option.some.inj h]
  exact CheckPoint_any l0 l1 A0 A1 c0 c1 w hr0 hc0 hr1 hc1 hd.1 hd.2
 ·cases h
def linear_CheckFarkas.f (l0 : List S40) (l1 : List Int) : Option Bool := if (∀ r, r ∈ l0 → RowIn r) ∧ ∀ x, x ∈ l1 → In64 x then some (chkF l0 l1) else none
theorem linear_CheckFarkas.calls (A0 : Option Addr) (c0 : Nat) (l0 : List S40) (A1 : Option Addr) (c1 : Nat) (l1 : List Int) (r : Bool) (w : World) (hr0 : Kd.C k40 w A0 l0.length l0) (hc0 : l0.length ≤ c0) (hr1 : Kd.C (Kd.int .i64) w A1 l1.length l1) (hc1 : l1.length ≤ c1) (h : linear_CheckFarkas.f l0 l1 = some r) :
  Calls Tryz.prog 17 #[.slice A0 l0.length c0, .slice A1 l1.length c1] w fun e w' => e = .returned (.bool r) ∧ Below w.heap.size w w' := by
 unfold linear_CheckFarkas.f at h
 split at h
 ·rename_i hd
  rw [← Option.some.inj h]
  exact CheckFarkas_any l0 l1 A0 A1 c0 c1 w hr0 hc0 hr1 hc1 hd.1 hd.2
 ·cases h
end Go.Proofs.YtbpjnkeilhfajaaGreat.Given
end

section
/- Rows of rats of the call's own: read, written. -/
namespace Go.Proofs.YtbpjnkeilhfajaaGreat.Ln
open Go.RowKit Go.Proofs.YtbpjnkeilhfajaaGreat.Num Go.Proofs.YtbpjnkeilhfajaaGreat.Given Go.Proofs.YtbpjnkeilhfajaaGreat.Lin Go.Proofs.YtbpjnkeilhfajaaGreatW.PrintWords
set_option linter.unusedVariables false
set_option linter.unusedSimpArgs false
def flatQ : List Rat → List Value
 | [] => []
 | x :: l => .int .i64 x.num :: .int .i64 x.den :: flatQ l
theorem flatQ_len : ∀ l, (flatQ l).length = l.length * 2
 | [] => rfl
 | x :: l => by rw [flatQ, List.length_cons, List.length_cons, flatQ_len l, List.length_cons]; omega
theorem flatQ_app : ∀ l m, flatQ (l ++ m) = flatQ l ++ flatQ m
 | [], m => rfl
 | x :: l, m => by rw [List.cons_append, flatQ, flatQ_app l m, flatQ]; rfl
theorem flatQ_get : ∀ {l : List Rat} {i : Nat} (h : i < l.length), (flatQ l)[i * 2]? = some (.int .i64 l[i].num) ∧ (flatQ l)[i * 2 + 1]? = some (.int .i64 l[i].den)
 | x :: l, 0, h => ⟨rfl, rfl⟩
 | x :: l, i + 1, h => by
  have ih := flatQ_get (l := l) (i := i) (by simpa using h)
  rw [show (i + 1) * 2 = i * 2 + 1 + 1 by omega, flatQ]
  exact ih
theorem flatQ_set : ∀ (l : List Rat) (i : Nat) (x : Rat), flatQ (l.set i x) = ((flatQ l).set (i * 2) (.int .i64 x.num)).set (i * 2 + 1) (.int .i64 x.den)
 | [], i, x => by simp [flatQ]
 | y :: l, 0, x => rfl
 | y :: l, i + 1, x => by
  rw [List.set_cons_succ, flatQ, flatQ_set l i x, show (i + 1) * 2 = i * 2 + 1 + 1 by omega, flatQ]
  rfl
def RowQ (w : World) (base : Nat) (v : Value) (l : List Rat) : Prop := w.ownsRow base 28 2 v l.length (flatQ l)
theorem rowQ_at {w : World} {base : Nat} {v : Value} {l : List Rat} (h : RowQ w base v l) {i : Nat} (hi : i < l.length) :
  ∃ g cap, v = .slice (some ⟨g, 0, none⟩) l.length cap ∧ base ≤ g ∧ l.length ≤ cap ∧ w.cell? ⟨g, i * 2, none⟩ = some (.int .i64 l[i].num) ∧ w.cell? ⟨g, i * 2 + 1, none⟩ = some (.int .i64 l[i].den) ∧ ∀ k, w.frozen? ⟨g, k, none⟩ = false := by
 obtain ⟨hl, hv⟩ := h
 rcases hv with ⟨_, h0⟩ | ⟨g, cap, cur, rfl, hg, hb, hn, hm, hs, ht⟩
 ·omega
 ·obtain ⟨a, b⟩ := flatQ_get hi
  rw [← ht, List.getElem?_take] at a b
  refine ⟨g, cap, rfl, hg, hn, ?_, ?_, fun k => by simp [World.frozen?, hb]⟩
  ·split at a
   ·rw [cell_of_row w g _ cur _ (0, 0) hb]; simpa using a
   ·cases a
  ·split at b
   ·rw [cell_of_row w g _ cur _ (0, 0) hb]; simpa using b
   ·cases b
theorem rowQ_set {w : World} {base g n cap : Nat} {l : List Rat} (h : RowQ w base (.slice (some ⟨g, 0, none⟩) n cap) l) (i : Nat) (hi : i < l.length) (x : Rat) :
  RowQ ((w.setCell ⟨g, i * 2, none⟩ (.int .i64 x.num)).setCell ⟨g, i * 2 + 1, none⟩ (.int .i64 x.den)) base (.slice (some ⟨g, 0, none⟩) n cap) (l.set i x) := by
 obtain ⟨hl, hv⟩ := h
 refine ⟨by rw [flatQ_len], ?_⟩
 rcases hv with ⟨h1, _⟩ | ⟨g', cap', cur, e, hg, hb, hn, hm, hs, ht⟩
 ·cases h1
 ·injection e with e1 e2 e3
  injection e1 with e1
  injection e1 with e1
  subst e1
  subst e2
  subst e3
  refine .inr ⟨g, cap, (cur.setIfInBounds (i * 2) (.int .i64 x.num)).setIfInBounds (i * 2 + 1) (.int .i64 x.den), by rw [List.length_set], hg, blk_put (blk_put hb _ _ rfl) _ _ rfl, by rw [List.length_set]; exact hn, hm, by simpa using hs, ?_⟩
  rw [List.length_set, flatQ_set, ← ht]
  simp only [Array.toList_setIfInBounds, List.take_set]
end Go.Proofs.YtbpjnkeilhfajaaGreat.Ln
end

section
/- The table in memory. -/
namespace Go.Proofs.YtbpjnkeilhfajaaGreat.Ln
open Go.RowKit Go.Proofs.YtbpjnkeilhfajaaGreat.Num Go.Proofs.YtbpjnkeilhfajaaGreat.Given Go.Proofs.YtbpjnkeilhfajaaGreat.Lin Go.Proofs.YtbpjnkeilhfajaaGreatW.PrintWords
set_option linter.unusedVariables false
set_option linter.unusedSimpArgs false
def natv (l : List Nat) : List Value := l.map fun n : Nat => Value.int .i64 (n : Int)
def RowN (w : World) (base : Nat) (v : Value) (l : List Nat) : Prop := w.ownsRow base 3 1 v l.length (natv l)
def RowS (w : World) (base : Nat) (v : Value) (l : List Value) : Prop := w.ownsRow base 26 1 v l.length l
theorem one_at {w : World} {base : Nat} {ty : TypeId} {v : Value} {l : List Value} (h : w.ownsRow base ty 1 v l.length l) {i : Nat} (hi : i < l.length) :
  ∃ g cap, v = .slice (some ⟨g, 0, none⟩) l.length cap ∧ base ≤ g ∧ l.length ≤ cap ∧ w.cell? ⟨g, i, none⟩ = some l[i] ∧ (∀ k, w.frozen? ⟨g, k, none⟩ = false) ∧ ∃ cur, w.heap[g]? = some (.cells cur ty (0, 0)) := by
 obtain ⟨hl, hv⟩ := h
 rcases hv with ⟨_, h0⟩ | ⟨g, cap, cur, rfl, hg, hb, hn, hm, hs, ht⟩
 ·omega
 ·refine ⟨g, cap, rfl, hg, hn, ?_, fun k => by simp [World.frozen?, hb], cur, hb⟩
  have a : (List.take (l.length * 1) cur.toList)[i]? = some l[i] := by rw [ht]; exact List.getElem?_eq_getElem hi
  rw [List.getElem?_take_of_lt (by omega)] at a
  rw [cell_of_row w g _ cur _ (0, 0) hb]
  simpa using a
theorem one_set {w : World} {base g n cap : Nat} {ty : TypeId} {l : List Value} (h : w.ownsRow base ty 1 (.slice (some ⟨g, 0, none⟩) n cap) l.length l) (i : Nat) (x : Value) :
  (w.setCell ⟨g, i, none⟩ x).ownsRow base ty 1 (.slice (some ⟨g, 0, none⟩) n cap) (l.set i x).length (l.set i x) := by
 obtain ⟨hl, hv⟩ := h
 refine ⟨by simp, ?_⟩
 rcases hv with ⟨h1, _⟩ | ⟨g', cap', cur, e, hg, hb, hn, hm, hs, ht⟩
 ·cases h1
 ·injection e with e1 e2 e3
  injection e1 with e1
  injection e1 with e1
  subst e1
  subst e2
  subst e3
  refine .inr ⟨g, cap, cur.setIfInBounds i x, by rw [List.length_set], hg, blk_put hb _ _ rfl, by rw [List.length_set]; exact hn, hm, by simpa using hs, ?_⟩
  rw [List.length_set]
  conv => rhs; rw [← ht]
  simp only [Array.toList_setIfInBounds, List.take_set]
theorem rowN_at {w : World} {base : Nat} {v : Value} {l : List Nat} (h : RowN w base v l) {i : Nat} (hi : i < l.length) :
  ∃ g cap, v = .slice (some ⟨g, 0, none⟩) l.length cap ∧ base ≤ g ∧ l.length ≤ cap ∧ w.cell? ⟨g, i, none⟩ = some (.int .i64 (l[i] : Int)) ∧ (∀ k, w.frozen? ⟨g, k, none⟩ = false) ∧ ∃ cur, w.heap[g]? = some (.cells cur 3 (0, 0)) := by
 have e : l.length = (natv l).length := by simp [natv]
 unfold RowN at h
 rw [e] at h
 obtain ⟨g, cap, h1, h2, h3, h4, h5, h6⟩ := one_at h (show i < (natv l).length by omega)
 rw [← e] at h1 h3
 exact ⟨g, cap, h1, h2, h3, by simpa [natv] using h4, h5, h6⟩
theorem rowN_set {w : World} {base g n cap : Nat} {l : List Nat} (h : RowN w base (.slice (some ⟨g, 0, none⟩) n cap) l) (i x : Nat) :
  RowN (w.setCell ⟨g, i, none⟩ (.int .i64 (x : Int))) base (.slice (some ⟨g, 0, none⟩) n cap) (l.set i x) := by
 have e : l.length = (natv l).length := by simp [natv]
 unfold RowN at h ⊢
 rw [e] at h
 have h2 := one_set h i (.int .i64 (x : Int))
 rw [List.length_set, ← e] at h2
 rw [List.length_set]
 have e2 : natv (l.set i x) = (natv l).set i (.int .i64 (x : Int)) := by simp [natv, List.map_set]
 rw [e2]
 exact h2
def Unlike (a b : Value) : Prop := ∀ k, a.ownBlock = some k → b.ownBlock ≠ some k
structure TabAt (w : World) (base tb vars : Nat) (t : Tab) (vb vr vv vl : Value) (rs : List Value) : Prop where
 box : w.heap[tb]? = some (.cells #[.int .i64 vars, vb, vr, vv, vl] 72 (0, 0))
 basic : RowN w base vb t.basic
 rows : RowS w base vr rs
 len : rs.length = t.rows.length
 row : ∀ j (h : j < rs.length), RowQ w base rs[j] (rdR t.rows j)
 value : RowQ w base vv t.value
 limits : RowQ w base vl t.limits
 apart : List.Pairwise Unlike (vv :: vl :: rs)
theorem RowQ.below {w w1 : World} {base : Nat} {v : Value} {l : List Rat} (h : RowQ w base v l) (hb : Below w.heap.size w w1) : RowQ w1 base v l := pw_own_below h hb
theorem RowN.below {w w1 : World} {base : Nat} {v : Value} {l : List Nat} (h : RowN w base v l) (hb : Below w.heap.size w w1) : RowN w1 base v l := pw_own_below h hb
theorem RowS.below {w w1 : World} {base : Nat} {v : Value} {l : List Value} (h : RowS w base v l) (hb : Below w.heap.size w w1) : RowS w1 base v l := pw_own_below h hb
theorem TabAt.below {w w1 : World} {base tb vars : Nat} {t : Tab} {vb vr vv vl : Value} {rs : List Value} (h : TabAt w base tb vars t vb vr vv vl rs) (hb : Below w.heap.size w w1) : TabAt w1 base tb vars t vb vr vv vl rs :=
 ⟨blk_below h.box hb, h.basic.below hb, h.rows.below hb, h.len, fun j hj => (h.row j hj).below hb, h.value.below hb, h.limits.below hb, h.apart⟩
structure WfT (vars : Nat) (t : Tab) : Prop where
 vl : t.value.length = vars + t.limits.length
 bl : t.basic.length = t.limits.length
 rl : t.rows.length = t.limits.length
 cl : ∀ j, j < t.rows.length → (rdR t.rows j).length = t.value.length
 bas : ∀ j, j < t.basic.length → rdN t.basic j < t.value.length
 fv : ∀ j, Fit (rdQ t.value j)
 fl : ∀ j, Fit (rdQ t.limits j)
 fr : ∀ i j, Fit (rdQ (rdR t.rows i) j)
 max : t.value.length ≤ 4096
theorem rdQ_get {l : List Rat} {i : Nat} (h : i < l.length) : l[i] = rdQ l i := by simp [rdQ, List.getElem?_eq_getElem h]
theorem rdN_get {l : List Nat} {i : Nat} (h : i < l.length) : l[i] = rdN l i := by simp [rdN, List.getElem?_eq_getElem h]
theorem rdR_get {l : List (List Rat)} {i : Nat} (h : i < l.length) : l[i] = rdR l i := by simp [rdR, List.getElem?_eq_getElem h]
end Go.Proofs.YtbpjnkeilhfajaaGreat.Ln
end

section
/- What a walk through a region of open order holds on to: cells of a world, and what lies below; rows of whole numbers, rows of rows. -/
namespace Go.Proofs.YtbpjnkeilhfajaaGreat.Ln
open Go.RowKit Go.Proofs.YtbpjnkeilhfajaaGreat.Num Go.Proofs.YtbpjnkeilhfajaaGreat.Given Go.Proofs.YtbpjnkeilhfajaaGreat.Lin Go.Proofs.YtbpjnkeilhfajaaGreatW.PrintWords
set_option linter.unusedVariables false
set_option linter.unusedSimpArgs false
theorem wrapsub {a b : Nat} (h : b ≤ a) (k : a < 9223372036854775808) : wrap64 ((a : Int) - (b : Int)) = ((a - b : Nat) : Int) := by unfold wrap64; omega
def Cells : List (Addr × Value) → World → Prop
 | [], _ => True
 | (a, v) :: l, w => w.cell? a = some v ∧ Cells l w
theorem Cells.keep {w w1 : World} (hb : Below w.heap.size w w1) : ∀ {l : List (Addr × Value)}, Cells l w → Cells l w1
 | [], h => h
 | (a, v) :: l, h => ⟨kcell hb h.1, Cells.keep hb h.2⟩
structure Hd (l : List (Addr × Value)) (W : World) (base : Nat) (w : World) : Prop where
 le : base ≤ W.heap.size
 cells : Cells l w
 below : Below base W w
theorem Hd.size {l : List (Addr × Value)} {W w : World} {base : Nat} (h : Hd l W base w) : base ≤ w.heap.size := Nat.le_trans h.le h.below.size
theorem Hd.keep {l : List (Addr × Value)} {W w w1 : World} {base : Nat} (h : Hd l W base w) (hb : Below w.heap.size w w1) : Hd l W base w1 :=
 ⟨h.le, h.cells.keep hb, h.below.trans (hb.mono h.size)⟩
theorem Hd.drew {l : List (Addr × Value)} {W w : World} {base : Nat} (h : Hd l W base w) : Hd l W base w.drew := ⟨h.le, h.cells.keep ((Below.refl _ _).drew), h.below.drew⟩
theorem al_new {P : Program} {o : Oper} {ops : Array Oper} {a : Act} {w : World} {K : Act → World → Prop} {Q : Exit → Act → World → Prop} (ob : Obj)
  (hw : Region.wanted o (yielded ops a.tmps) = true)
  (hrun : ∀ w : World, (execOp a.eval o).run P w = .ok (.value (.pointer (some ⟨w.heap.size, 0, none⟩))) (w.alloc ob))
  (h : ∀ (g : Nat) (w2 : World), g = w.heap.size → Below w.heap.size w w2 → Hid (w2.heap[g]? = some ob ∧ g < w2.heap.size) → K (a.put o.dst (.pointer (some ⟨g, 0, none⟩))) w2) :
  if Region.wanted o (yielded ops a.tmps) = true then Oper.wp P o a w K Q else K (a.put o.dst undef) w := by
 rw [if_pos hw]
 unfold Oper.wp
 rw [hrun, Oper.upon_value]
 exact h _ _ rfl ((Below.refl _ _).alloc (Nat.le_refl _) _) (Lib.hid ⟨blk_new _ _, by simp⟩)
theorem hp_keep {w w2 : World} {g : Nat} {o : Obj} (h : Hid (w.heap[g]? = some o ∧ g < w.heap.size)) (hb : Below w.heap.size w w2) : Hid (w2.heap[g]? = some o ∧ g < w2.heap.size) :=
 Lib.hid ⟨blk_below h.out.1 hb, Nat.lt_of_lt_of_le h.out.2 hb.size⟩
theorem box2 {w : World} {g : Nat} {x y : Value} {ty : TypeId} (h : Hid (w.heap[g]? = some (.cells #[x, y] ty (0, 0)) ∧ g < w.heap.size)) :
  w.cell? ⟨g, 0, none⟩ = some x ∧ w.cell? ⟨g, 1, none⟩ = some y ∧ w.frozen? ⟨g, 0, none⟩ = false ∧ w.frozen? ⟨g, 1, none⟩ = false := ⟨blk_cell h.out.1 0, blk_cell h.out.1 1, blk_frozen h.out.1 0, blk_frozen h.out.1 1⟩
theorem rowQ_rd {w : World} {base : Nat} {v : Value} {l : List Rat} (h : RowQ w base v l) {i : Nat} (hi : i < l.length) :
  ∃ g cap, v = .slice (some ⟨g, 0, none⟩) l.length cap ∧ base ≤ g ∧ l.length ≤ cap ∧ w.cell? ⟨g, i * 2, none⟩ = some (.int .i64 (rdQ l i).num) ∧ w.cell? ⟨g, i * 2 + 1, none⟩ = some (.int .i64 (rdQ l i).den) ∧ ∀ k, w.frozen? ⟨g, k, none⟩ = false := by
 rw [← rdQ_get hi]; exact rowQ_at h hi
theorem rowN_rd {w : World} {base : Nat} {v : Value} {l : List Nat} (h : RowN w base v l) {i : Nat} (hi : i < l.length) :
  ∃ g cap, v = .slice (some ⟨g, 0, none⟩) l.length cap ∧ base ≤ g ∧ l.length ≤ cap ∧ w.cell? ⟨g, i, none⟩ = some (.int .i64 (rdN l i : Int)) ∧ (∀ k, w.frozen? ⟨g, k, none⟩ = false) ∧ ∃ cur, w.heap[g]? = some (.cells cur 3 (0, 0)) := by
 rw [← rdN_get hi]; exact rowN_at h hi
theorem rowQ_in {w : World} {base g n cap : Nat} {l : List Rat} (h : RowQ w base (.slice (some ⟨g, 0, none⟩) n cap) l) {i : Nat} (hi : i < l.length) :
  w.cell? ⟨g, i * 2, none⟩ = some (.int .i64 (rdQ l i).num) ∧ w.cell? ⟨g, i * 2 + 1, none⟩ = some (.int .i64 (rdQ l i).den) ∧ w.frozen? ⟨g, i * 2, none⟩ = false ∧ w.frozen? ⟨g, i * 2 + 1, none⟩ = false ∧ base ≤ g ∧ n = l.length := by
 obtain ⟨g', cap', e, h1, _, h2, h3, h4⟩ := rowQ_rd h hi
 injection e with e1 e2 e3
 injection e1 with e1
 injection e1 with e1
 subst e1
 exact ⟨h2, h3, h4 _, h4 _, h1, e2⟩
theorem new2 (w : World) (x y : Value) (ty : TypeId) : (w.alloc (.cells #[x, y] ty (0, 0))).cell? ⟨w.heap.size, 0, none⟩ = some x ∧ (w.alloc (.cells #[x, y] ty (0, 0))).cell? ⟨w.heap.size, 1, none⟩ = some y := ⟨blk_cell (blk_new _ _) 0, blk_cell (blk_new _ _) 1⟩
end Go.Proofs.YtbpjnkeilhfajaaGreat.Ln
end
