/- linear.CheckFarkas$3: the sums of all columns. -/
import Derived.Test.YtdkbnbebioflaaaLnH
namespace Go.Proofs.Ytdkbnbebioflaaa.Ln
open Go.RowKit Go.Proofs.Ytdkbnbebioflaaa.Num Go.Proofs.Ytdkbnbebioflaaa.Given Go.Proofs.Ytdkbnbebioflaaa.Lin Go.Proofs.YtdkbnbebioflaaaW.PrintWords
set_option linter.unusedVariables false
set_option linter.unusedSimpArgs false

/-- Are all columns 0, and is K above it? none: a number does not fit. -/
def colsP (l : List S38) (ws : List Int) : Nat → Nat → Bool → Option Bool
  | 0, _, b => if b = true then (weighF ws (l.map fun r => r.f1) 0).bind fun s => some (decide (0 < s)) else some false
  | d + 1, i, b => if b = true then (weighF ws (l.map fun r => r.f0.getD i 0) 0).bind fun s => colsP l ws d (i + 1) (s == 0) else colsP l ws d (i + 1) false

set_option maxHeartbeats 8000000 in
set_option maxRecDepth 100000 in
theorem farkas3_any (l : List S38) (ws : List Int) (n : Nat) (A A' : Option Addr) (c c' : Nat) (nb ab rb wb : Nat) (w0 w : World) (hC : Kd.C k38 w0 A l.length l) (hc : l.length ≤ c) (hV : (Kd.int .i64).C w0 A' ws.length ws) (hc' : ws.length ≤ c') (hB : Below w0.heap.size w0 w) (hl : l.length = ws.length)
    (hin : ∀ r, r ∈ l → In64 r.f1 ∧ ∀ x, x ∈ r.f0 → In64 x) (hn : ∀ r, r ∈ l → r.f0.length = n) (hnn : n ≤ 9223372036854775807) (hws : ∀ x, x ∈ ws → In64 x)
    (h1 : w.heap[nb]? = some (.cells #[.int .i64 n] 3 (0, 0))) (h2 : w.heap[ab]? = some (.cells #[.bool true] 4 (0, 0))) (h3 : w.heap[rb]? = some (.cells #[.slice A l.length c] 22 (0, 0))) (h4 : w.heap[wb]? = some (.cells #[.slice A' ws.length c'] 33 (0, 0))) (ha : w0.heap.size ≤ ab) (hna : nb ≠ ab) (hra : rb ≠ ab) (hwa : wb ≠ ab) :
    Calls Try.prog 27 #[.pointer (some ⟨nb, 0, none⟩), .pointer (some ⟨ab, 0, none⟩), .pointer (some ⟨rb, 0, none⟩), .pointer (some ⟨wb, 0, none⟩)] w fun e w' => PointEnd ab (colsP l ws n 0 true) e w' ∧ Fp (fun k => k = ab) w w' := by
  obtain ⟨r, hr⟩ : ∃ r, colsP l ws n 0 true = r := ⟨_, rfl⟩
  rw [hr]
  have hcol : ∀ j, j < n → ∀ W, Below w0.heap.size w0 W → ∀ ib, W.cell? ⟨ib, 0, none⟩ = some (.int .i64 (j : Int)) → Calls Try.prog 28 #[.slice A l.length c, .slice A' ws.length c', .func (.func 29) #[] #[.pointer (some ⟨ib, 0, none⟩)]] W fun e w' => WeighEnd (weighF ws (l.map fun r => r.f0.getD j 0) 0) e ∧ Below W.heap.size W w' := by
    intro j hj W hW ib hib
    refine weighC (fun r => r.f0.getD j 0) l ws A A' c c' _ w0 W hC hc hV hc' hW hl ?_ hws ?_
    · intro x hx
      have hlt : j < x.f0.length := by rw [hn x hx]; exact hj
      rw [show x.f0.getD j 0 = x.f0[j] by simp [List.getElem?_eq_getElem hlt]]
      exact (hin x hx).2 _ (List.getElem_mem hlt)
    · intro x hx B d W2 k1 k2 k3 k4
      exact farkas31_any x B d ib j w0 W2 k1 k2 k3 (by rw [hn x hx]; exact hj) (kcell k4 hib)
  have hk : ∀ W, Below w0.heap.size w0 W → Calls Try.prog 28 #[.slice A l.length c, .slice A' ws.length c', .func (.func 30) #[] #[]] W fun e w' => WeighEnd (weighF ws (l.map fun r => r.f1) 0) e ∧ Below W.heap.size W w' := by
    intro W hW
    exact weighK (fun r => r.f1) l ws A A' c c' w0 W hC hc hV hc' hW hl (fun x hx => (hin x hx).1) hws (fun x hx B d W2 _ _ _ _ => farkas32_any x B d W2)
  have HCOL := Lib.hid hcol
  have HK := Lib.hid hk
  have HB := Lib.hid hB
  have HR := Lib.hid hr
  have H1 := Lib.hid h1
  have H2 := Lib.hid h2
  have H3 := Lib.hid h3
  have H4 := Lib.hid h4
  have p1 : w.cell? ⟨nb, 0, none⟩ = some (.int .i64 n) := blk_cell h1 0
  clear hcol hk hC hV hB hin hn hr h1 h2 h3 h4 hws hl
  go_enter Try.func27, Try.ntmps27
  go_wp2
  go_loopw [6] (fun v wr => ∃ (j : Nat) (b : Bool), j ≤ n ∧ v = .int .i64 j ∧ colsP l ws (n - j) j b = r ∧ wr.heap[ab]? = some (.cells #[.bool b] 4 (0, 0)) ∧ Fp (fun k => k = ab) w wr) (fun v _ => n - (intOf v).toNat)
  case atStart => exact ⟨0, true, Nat.zero_le _, rfl, HR.out, H2.out, Fp.refl _ _⟩
  case round =>
    obtain ⟨j, b, hj, rfl, hL, hP, hbr⟩ := hrel
    have hbw : Below w0.heap.size w0 wr := HB.out.trans (hbr.below HB.out.size (by intro i hi he; omega))
    have za := blk_lt hP
    have q1 : wr.cell? ⟨ab, 0, none⟩ = some (.bool b) := blk_cell hP 0
    have q2 : wr.frozen? ⟨ab, 0, none⟩ = false := blk_frozen hP 0
    have hp3 := (hbr.block _ (blk_lt H3.out) hra).trans H3.out
    have q3 : wr.cell? ⟨rb, 0, none⟩ = some (.slice A l.length c) := blk_cell hp3 0
    have hp4 := (hbr.block _ (blk_lt H4.out) hwa).trans H4.out
    have q4 : wr.cell? ⟨wb, 0, none⟩ = some (.slice A' ws.length c') := blk_cell hp4 0
    have z3 := blk_lt hp3
    have z4 := blk_lt hp4
    have HP := Lib.hid hP
    have HBR := Lib.hid hbr
    have HBW := Lib.hid hbw
    clear hP hbr hbw hp3 hp4
    by_cases hjl : j < n
    · rw [show n - j = n - (j + 1) + 1 by omega, colsP] at hL
      have EW := Lib.hid (wrapj (show j + 1 < 9223372036854775808 by omega))
      cases b with
      | false =>
        rw [if_neg (by decide)] at hL
        have HLL := Lib.hid hL
        clear hL
        go_wp2
        refine ⟨⟨j + 1, false, hjl, congrArg (Value.int .i64) (Int.natCast_succ j).symm, HLL.out, ?hblk, ?hfp⟩, ?_⟩
        case hblk => exact blk_alloc (blk_put HP.out 0 _ rfl) _
        case hfp => exact (HBR.out.setCell (a := ⟨ab, 0, none⟩) (fun _ => rfl) _).alloc _
        show n - ((j : Int) + 1).toNat < n - (j : Int).toNat
        omega
      | true =>
        rw [if_pos rfl] at hL
        have hcj := HCOL.out j hjl (wr.alloc (.cells #[.int .i64 (j : Int)] 3)) (HBW.out.alloc HBW.out.size _) wr.heap.size (blk_cell (blk_new wr _) 0)
        have HP0 := Lib.hid (blk_alloc HP.out (.cells #[.int .i64 (j : Int)] 3))
        cases hh : weighF ws (l.map fun r => r.f0.getD j 0) 0 with
        | none =>
          rw [hh] at hcj
          rw [hh, Option.bind_none] at hL
          obtain rfl : r = none := hL.symm
          have HCJ := Lib.hid hcj
          clear hcj hL hh
          go_wp2_with fail
          refine HCJ.out.mono ?_
          rintro e w2 ⟨he, hb2⟩
          obtain rfl : e = .panicked LargeL := he
          exact ⟨rfl, rfl, (HBR.out.alloc _).tr (Fp.of_below hb2)⟩
        | some s =>
          rw [hh] at hcj
          rw [hh, Option.bind_some] at hL
          have HCJ := Lib.hid hcj
          have HLL := Lib.hid hL
          clear hcj hL hh
          go_wp2_with fail
          refine HCJ.out.mono ?_
          rintro e w2 ⟨he, hb2⟩
          obtain rfl : e = .returned (.int .i64 s) := he
          have hp2 := (hb2.block ab (by simp; omega)).trans HP0.out
          have r1 : w2.cell? ⟨ab, 0, none⟩ = some (.bool true) := blk_cell hp2 0
          have r2 : w2.frozen? ⟨ab, 0, none⟩ = false := blk_frozen hp2 0
          have HP2 := Lib.hid hp2
          have HB2 := Lib.hid ((HBR.out.alloc _).tr (Fp.of_below (S := fun k => k = ab) hb2))
          clear hp2 hb2
          go_wp2
          refine ⟨⟨j + 1, s == 0, hjl, congrArg (Value.int .i64) (Int.natCast_succ j).symm, HLL.out, ?hblk, ?hfp⟩, ?_⟩
          case hblk => exact blk_put HP2.out 0 _ rfl
          case hfp => exact HB2.out.setCell (a := ⟨ab, 0, none⟩) (fun _ => rfl) _
          show n - ((j : Int) + 1).toNat < n - (j : Int).toNat
          omega
    · have hjj : j = n := by omega
      subst hjj
      rw [Nat.sub_self, colsP] at hL
      cases b with
      | false =>
        rw [if_neg (by decide)] at hL
        obtain rfl : r = some false := hL.symm
        clear hL
        go_wp2
        simp [bodyPost, results, Try.results27, go_sem]
        exact ⟨And.intro rfl (blk_put HP.out 0 _ rfl), HBR.out.setCell (a := ⟨ab, 0, none⟩) (fun _ => rfl) _⟩
      | true =>
        rw [if_pos rfl] at hL
        have hkk := HK.out wr HBW.out
        cases hh : weighF ws (l.map fun r => r.f1) 0 with
        | none =>
          rw [hh] at hkk
          rw [hh, Option.bind_none] at hL
          obtain rfl : r = none := hL.symm
          have HKK := Lib.hid hkk
          clear hkk hL hh
          go_wp2_with fail
          refine HKK.out.mono ?_
          rintro e w2 ⟨he, hb2⟩
          obtain rfl : e = .panicked LargeL := he
          exact ⟨rfl, rfl, HBR.out.tr (Fp.of_below hb2)⟩
        | some s =>
          rw [hh] at hkk
          rw [hh, Option.bind_some] at hL
          obtain rfl : r = some (decide (0 < s)) := hL.symm
          have HKK := Lib.hid hkk
          clear hkk hL hh
          go_wp2_with fail
          refine HKK.out.mono ?_
          rintro e w2 ⟨he, hb2⟩
          obtain rfl : e = .returned (.int .i64 s) := he
          have hp2 := (hb2.block ab za).trans HP.out
          have r1 : w2.cell? ⟨ab, 0, none⟩ = some (.bool true) := blk_cell hp2 0
          have r2 : w2.frozen? ⟨ab, 0, none⟩ = false := blk_frozen hp2 0
          have HP2 := Lib.hid hp2
          have HB2 := Lib.hid (HBR.out.tr (Fp.of_below (S := fun k => k = ab) hb2))
          clear hp2 hb2
          go_wp2
          simp [bodyPost, results, Try.results27, go_sem]
          exact ⟨And.intro rfl (blk_put HP2.out 0 _ rfl), HB2.out.setCell (a := ⟨ab, 0, none⟩) (fun _ => rfl) _⟩

end Go.Proofs.Ytdkbnbebioflaaa.Ln
