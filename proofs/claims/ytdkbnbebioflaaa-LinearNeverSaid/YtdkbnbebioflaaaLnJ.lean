/- linear.CheckFarkas, whole. -/
import Derived.Test.YtdkbnbebioflaaaLnI
namespace Go.Proofs
theorem Z1k3 {p : Prop} (h : p := by first | exact Nat.le_refl _ | (simp; done) | (simp; omega) | omega) : p := h
theorem Z1k0 {p : Prop} (h : p := by exact (by repeat (first | exact Below.refl _ _ | with_reducible assumption | refine Below.alloc ?_ Z1k3 _ | refine Below.setCell ?_ Z1k3 _ | refine Below.drew ?_ | refine bdrewN ?_ _))) : p := h
theorem Z1k1 {p : Prop} (h : p := by first | exact Nat.le_refl _ | (simp; done) | (simp; omega) | omega) : p := h
theorem Z1k2 {p : Prop} (h : p := by repeat (first | exact Below.refl _ _ | with_reducible assumption | refine Below.alloc ?_ Z1k3 _ | refine Below.setCell ?_ Z1k3 _ | refine Below.drew ?_ | refine bdrewN ?_ _)) : p := h
end Go.Proofs
namespace Go.Proofs.Ytdkbnbebioflaaa.Ln
open Go.RowKit Go.Proofs.Ytdkbnbebioflaaa.Num Go.Proofs.Ytdkbnbebioflaaa.Given Go.Proofs.Ytdkbnbebioflaaa.Lin Go.Proofs.YtdkbnbebioflaaaW.PrintWords
set_option linter.unusedVariables false
set_option linter.unusedSimpArgs false

/-- linear.CheckFarkas. -/
def chkF (l : List S38) (ws : List Int) : Bool :=
  if l.length = ws.length then
    if ws.any (fun x => decide (x < 0)) = true then false
    else if l.length = 0 then false
    else if l.any (fun x => !((x.f0.length : Int) == ((l.getD 0 z38).f0.length : Int))) = true then false
    else outB (colsP l ws (l.getD 0 z38).f0.length 0 true)
  else false
theorem add_z (ad : Addr) : ad.add 0 = ad := by
  cases ad
  unfold Addr.add
  split <;> simp_all
theorem cf_farkas (args : Array Value) (w : World) : (callFunc 27 args).run Try.prog w = .ok (.enter 27 args) w := by kernel_rfl

set_option maxHeartbeats 8000000 in
set_option maxRecDepth 100000 in
theorem CheckFarkas_any (l : List S38) (ws : List Int) (A A' : Option Addr) (c c' : Nat) (w : World) (hC : Kd.C k38 w A l.length l) (hc : l.length ≤ c) (hV : (Kd.int .i64).C w A' ws.length ws) (hc' : ws.length ≤ c')
    (hin : ∀ r, r ∈ l → In64 r.f1 ∧ ∀ x, x ∈ r.f0 → In64 x) (hws : ∀ x, x ∈ ws → In64 x) :
    Calls Try.prog 10 #[.slice A l.length c, .slice A' ws.length c'] w fun e w' => e = .returned (.bool (chkF l ws)) ∧ Below w.heap.size w w' := by
  unfold chkF
  by_cases hl : l.length = ws.length
  · rw [if_pos hl]
    have e1 : ((l.length : Int) = (ws.length : Int)) = True := eq_true (by rw [hl])
    have HA := Lib.hid (fun W (hW : Below w.heap.size w W) => anyI (fun x => decide (x < 0)) ws A' c' w W hV hc' hW (fun x hx W2 _ => farkas1_any x W2))
    cases hany : ws.any (fun x => decide (x < 0)) with
    | true =>
      rw [hany] at HA
      rw [if_pos rfl]
      have HL := Lib.hid hl
      clear hC hV hin hws hany hl
      go_enter Try.func10, Try.ntmps10
      go_wp2_with fail
      refine (HA.out _ ?_).mono ?_
      · exact Z1k0
      rintro e w1 ⟨rfl, hb1⟩
      go_wp2
      go_ret
      exact ⟨rfl, by refine Below.trans ?_ (hb1.mono Z1k1); exact Z1k2⟩
    | false =>
      rw [hany] at HA
      rw [if_neg (by decide)]
      by_cases h0 : l.length = 0
      · rw [if_pos h0]
        have e2 : ((l.length : Int) == 0) = true := by rw [h0]; rfl
        have HL := Lib.hid hl
        clear hC hV hin hws hany hl h0
        go_enter Try.func10, Try.ntmps10
        go_wp2_with fail
        refine (HA.out _ ?_).mono ?_
        · exact Z1k0
        rintro e w1 ⟨rfl, hb1⟩
        have hz1 := hb1.size
        simp at hz1
        have k1 := hb1.block w.heap.size (by simp; omega)
        rw [blk_alloc (blk_new w _) _] at k1
        have q1 : w1.cell? ⟨w.heap.size, 0, none⟩ = some (.slice A l.length c) := blk_cell k1 0
        have HB1 := Lib.hid (show Below w.heap.size w w1 by refine Below.trans ?_ (hb1.mono Z1k1); exact Z1k2)
        clear hb1 k1
        go_wp2
        go_ret
        exact ⟨rfl, HB1.out⟩
      · rw [if_neg h0]
        have e2 : ((l.length : Int) == 0) = false := beq_eq_false_iff_ne.2 (by omega)
        have e1b : ((l.length : Int) != (ws.length : Int)) = false := by rw [hl]; simp
        have hpos : 0 < l.length := by omega
        obtain ⟨ad, B, d, e, x0, _, l', _⟩ := el_R hC hpos
        rw [show l.getD 0 z38 = l[0] by simp [List.getElem?_eq_getElem hpos]]
        obtain ⟨n, hn⟩ : ∃ n, l[0].f0.length = n := ⟨_, rfl⟩
        have hmax := Kd.C_max ‹(Kd.int .i64).C w B l[0].f0.length l[0].f0›
        rw [hn] at x0 l' hmax ⊢
        rw [Nat.zero_mul] at x0
        have zx := World.block_lt_of_cell? w _ x0
        have HX0 := Lib.hid x0
        subst e
        have HR := Lib.hid (fun nb w2 (hB : Below w.heap.size w w2) (hnb : w2.cell? ⟨nb, 0, none⟩ = some (.int .i64 n)) => anyR (fun x => !((x.f0.length : Int) == (n : Int))) l (some ad) c (.pointer (some ⟨nb, 0, none⟩)) w w2 hC hc hB (fun x hx B d W hW => farkas2_any x B d nb n W (kcell hW hnb)))
        have HF := Lib.hid (fun (hn : ∀ r, r ∈ l → r.f0.length = n) => fun nb ab rb wb w2 hB h1 h2 h3 h4 ha hna hra hwa => farkas3_any l ws n (some ad) A' c c' nb ab rb wb w w2 hC hc hV hc' hB hl hin hn hmax hws h1 h2 h3 h4 ha hna hra hwa)
        obtain ⟨o, ho⟩ : ∃ o, colsP l ws n 0 true = o := ⟨_, rfl⟩
        rw [ho] at HF ⊢
        obtain ⟨bb, hbb⟩ : ∃ bb, l.any (fun x => !((x.f0.length : Int) == (n : Int))) = bb := ⟨_, rfl⟩
        rw [hbb] at HR ⊢
        have HBB := Lib.hid hbb
        clear hbb
        have HL := Lib.hid hl
        have H0 := Lib.hid h0
        clear hC hV hin hws hany hl h0 x0 hn ho
        go_enter Try.func10, Try.ntmps10
        go_wp2_with fail
        refine (HA.out _ ?_).mono ?_
        · exact Z1k0
        rintro e w1 ⟨rfl, hb1⟩
        have hz1 := hb1.size
        simp at hz1
        have k1 := hb1.block w.heap.size (by simp; omega)
        rw [blk_alloc (blk_new w _) _] at k1
        have k2 := hb1.block (w.heap.size + 1) (by simp)
        rw [show w.heap.size + 1 = (w.alloc (.cells #[.slice (some ad) l.length c] 22)).heap.size by simp, blk_new] at k2
        have q1 : w1.cell? ⟨w.heap.size, 0, none⟩ = some (.slice (some ad) l.length c) := blk_cell k1 0
        have HB1 := Lib.hid (show Below w.heap.size w w1 by refine Below.trans ?_ (hb1.mono Z1k1); exact Z1k2)
        have x0 : w1.cell? ad = some (.slice B n d) := by have h := kcell HB1.out HX0.out; rwa [add_z] at h
        have hlt1 : w.heap.size < w1.heap.size := by omega
        have hne1 : w.heap.size ≠ w1.heap.size := by omega
        have hlt2 : w.heap.size + 1 < w1.heap.size := by omega
        have hne2 : w.heap.size + 1 ≠ w1.heap.size := by omega
        have K1 := Lib.hid k1
        have K2 := Lib.hid k2
        clear hb1 k1 k2
        go_wp2_with fail
        have hnb : (w1.alloc (.cells #[.int .i64 n] 3)).cell? ⟨w1.heap.size, 0, none⟩ = some (.int .i64 n) := blk_cell (blk_new w1 _) 0
        have HB2 := Lib.hid (HB1.out.alloc HB1.out.size (.cells #[.int .i64 n] 3))
        have hr := HR.out w1.heap.size _ HB2.out hnb
        cases bb with
        | true =>
          refine hr.mono ?_
          rintro e w2 ⟨rfl, hb2⟩
          have HB3 := Lib.hid (HB2.out.trans (hb2.mono HB2.out.size))
          clear hb2 hr
          go_wp2
          go_ret
          exact ⟨rfl, HB3.out⟩
        | false =>
          refine hr.mono ?_
          rintro e w2 ⟨rfl, hb2⟩
          have hz2 := hb2.size
          simp at hz2
          have HB3 := Lib.hid (HB2.out.trans (hb2.mono HB2.out.size))
          have n1 := Lib.hid ((hb2.block _ (by simp; omega)).trans (blk_alloc K1.out _))
          have n2 := Lib.hid ((hb2.block _ (by simp; omega)).trans (blk_alloc K2.out _))
          have n3 := Lib.hid ((hb2.block _ (by simp)).trans (blk_new w1 (.cells #[.int .i64 n] 3)))
          clear hb2 hr hnb
          go_wp2_with fail
          have hrow : ∀ r, r ∈ l → r.f0.length = n := by
            intro r hr
            have := List.any_eq_false.1 HBB.out r hr
            simp at this
            omega
          have hne : w2.heap.size ≠ (w2.alloc (.cells #[.bool true] 4)).heap.size := by simp
          have HN := Lib.hid hne
          clear hne
          have hcall : ∀ W, Below (w2.alloc (.cells #[.bool true] 4)).heap.size (w2.alloc (.cells #[.bool true] 4)) W → Calls Try.prog 27 #[.pointer (some ⟨w1.heap.size, 0, none⟩), .pointer (some ⟨w2.heap.size, 0, none⟩), .pointer (some ⟨w.heap.size, 0, none⟩), .pointer (some ⟨w.heap.size + 1, 0, none⟩)] W fun e w' => PointEnd w2.heap.size o e w' ∧ Fp (fun k => k = w2.heap.size) W w' := by
            intro W hW
            refine HF.out hrow _ _ _ _ W (((HB3.out.alloc HB3.out.size _)).trans (hW.mono (by simp; omega))) ((hW.block _ (by simp; omega)).trans (blk_alloc n3.out _)) ((hW.block _ (by simp)).trans (blk_new _ _)) ((hW.block _ (by simp; omega)).trans (blk_alloc n1.out _)) ((hW.block _ (by simp; omega)).trans (blk_alloc ?_ _)) (by omega) (by omega) (by omega) (by omega)
            have := n2.out
            simpa using this
          have HC := Lib.hid hcall
          clear hcall hrow
          cases o with
          | none =>
            refine (fits_no 27 _ (fun k => k = w2.heap.size) (fun _ => True) _ (by rintro k rfl; simp) (cf_farkas _) (fun W hW => (HC.out W hW).mono (fun e w' h => ⟨h.1, h.2, trivial⟩))).mono ?_
            rintro e w3 ⟨rfl, hF, _⟩
            have HF3 := Lib.hid hF
            clear hF
            go_wp2
            go_ret
            exact ⟨rfl, (HB3.out.alloc HB3.out.size _).trans (HF3.out.below (by simp; omega) (by intro i hi he; omega))⟩
          | some b =>
            refine (fits_ok 27 _ (fun k => k = w2.heap.size) (fun W => W.heap[w2.heap.size]? = some (.cells #[.bool b] 4 (0, 0))) _ (by rintro k rfl; simp) (cf_farkas _) (fun W hW => (HC.out W hW).mono (fun e w' h => ⟨h.1.1, h.2, h.1.2⟩))).mono ?_
            rintro e w3 ⟨rfl, hF, W', hQ, hsz, hk⟩
            have q3 : w3.cell? ⟨w2.heap.size, 0, none⟩ = some (.bool b) := blk_cell ((hk _ (blk_lt hQ) HN.out).trans hQ) 0
            have HF3 := Lib.hid hF
            clear hF hk hQ hsz
            go_wp2
            go_ret
            exact ⟨rfl, (HB3.out.alloc HB3.out.size _).trans (HF3.out.below (by simp; omega) (by intro i hi he; omega))⟩
  · rw [if_neg hl]
    have e1 : ((l.length : Int) = (ws.length : Int)) = False := eq_false (fun h => hl (by omega))
    have HL := Lib.hid hl
    clear hC hV hin hws hl
    go_enter Try.func10, Try.ntmps10
    go_wp2
    go_ret
    exact ⟨rfl, Z1k2⟩

end Go.Proofs.Ytdkbnbebioflaaa.Ln
