import Derived.Test.YtdkbnbebioflaaaLnG
section
/- linear.CheckFarkas$3: the sums of all columns. -/
namespace Go.Proofs.Ytdkbnbebioflaaa.Ln
open Go.RowKit Go.Proofs.Ytdkbnbebioflaaa.Num Go.Proofs.Ytdkbnbebioflaaa.Given Go.Proofs.Ytdkbnbebioflaaa.Lin Go.Proofs.YtdkbnbebioflaaaW.PrintWords
set_option linter.unusedVariables false
set_option linter.unusedSimpArgs false

/-- Are all columns 0, and is K above it? none: a number does not fit. -/
def colsP (l : List S38) (ws : List Int) : Nat → Nat → Bool → Option Bool
  | 0, _, b => if b = true then (weighF ws (l.map fun r => r.f1) 0).bind fun s => some (decide (0 < s)) else some false
  | d + 1, i, b => if b = true then (weighF ws (l.map fun r => r.f0.getD i 0) 0).bind fun s => colsP l ws d (i + 1) (s == 0) else colsP l ws d (i + 1) false

set_option maxHeartbeats 8000000 in
set_option maxRecDepth 100000 in
theorem farkas3_any (l : List S38) (ws : List Int) (n : Nat) (A A' : Option Addr) (c c' : Nat) (nb ab rb wb : Nat) (w0 w : World) (hC : Kd.C k38 w0 A l.length l) (hc : l.length ≤ c) (hV : (Kd.int .i64).C w0 A' ws.length ws) (hc' : ws.length ≤ c') (hB : Below w0.heap.size w0 w) (hl : l.length = ws.length)
    (hin : ∀ r, r ∈ l → In64 r.f1 ∧ ∀ x, x ∈ r.f0 → In64 x) (hn : ∀ r, r ∈ l → r.f0.length = n) (hnn : n ≤ 9223372036854775807) (hws : ∀ x, x ∈ ws → In64 x)
    (h1 : w.heap[nb]? = some (.cells #[.int .i64 n] 3 (0, 0))) (h2 : w.heap[ab]? = some (.cells #[.bool true] 4 (0, 0))) (h3 : w.heap[rb]? = some (.cells #[.slice A l.length c] 22 (0, 0))) (h4 : w.heap[wb]? = some (.cells #[.slice A' ws.length c'] 33 (0, 0))) (ha : w0.heap.size ≤ ab) (hna : nb ≠ ab) (hra : rb ≠ ab) (hwa : wb ≠ ab) :
    Calls Try.prog 27 #[.pointer (some ⟨nb, 0, none⟩), .pointer (some ⟨ab, 0, none⟩), .pointer (some ⟨rb, 0, none⟩), .pointer (some ⟨wb, 0, none⟩)] w fun e w' => PointEnd ab (colsP l ws n 0 true) e w' ∧ Fp (fun k => k = ab) w w' := by
  obtain ⟨r, hr⟩ : ∃ r, colsP l ws n 0 true = r := ⟨_, rfl⟩
  rw [hr]
  have hcol : ∀ j, j < n → ∀ W, Below w0.heap.size w0 W → ∀ ib, W.cell? ⟨ib, 0, none⟩ = some (.int .i64 (j : Int)) → Calls Try.prog 28 #[.slice A l.length c, .slice A' ws.length c', .func (.func 29) #[] #[.pointer (some ⟨ib, 0, none⟩)]] W fun e w' => WeighEnd (weighF ws (l.map fun r => r.f0.getD j 0) 0) e ∧ Below W.heap.size W w' := by
    intro j hj W hW ib hib
    refine weighC (fun r => r.f0.getD j 0) l ws A A' c c' _ w0 W hC hc hV hc' hW hl ?_ hws ?_
    · intro x hx
      have hlt : j < x.f0.length := by rw [hn x hx]; exact hj
      rw [show x.f0.getD j 0 = x.f0[j] by simp [List.getElem?_eq_getElem hlt]]
      exact (hin x hx).2 _ (List.getElem_mem hlt)
    · intro x hx B d W2 k1 k2 k3 k4
      exact farkas31_any x B d ib j w0 W2 k1 k2 k3 (by rw [hn x hx]; exact hj) (kcell k4 hib)
  have hk : ∀ W, Below w0.heap.size w0 W → Calls Try.prog 28 #[.slice A l.length c, .slice A' ws.length c', .func (.func 30) #[] #[]] W fun e w' => WeighEnd (weighF ws (l.map fun r => r.f1) 0) e ∧ Below W.heap.size W w' := by
    intro W hW
    exact weighK (fun r => r.f1) l ws A A' c c' w0 W hC hc hV hc' hW hl (fun x hx => (hin x hx).1) hws (fun x hx B d W2 _ _ _ _ => farkas32_any x B d W2)
  have HCOL := Lib.hid hcol
  have HK := Lib.hid hk
  have HB := Lib.hid hB
  have HR := Lib.hid hr
  have H1 := Lib.hid h1
  have H2 := Lib.hid h2
  have H3 := Lib.hid h3
  have H4 := Lib.hid h4
  have p1 : w.cell? ⟨nb, 0, none⟩ = some (.int .i64 n) := blk_cell h1 0
  clear hcol hk hC hV hB hin hn hr h1 h2 h3 h4 hws hl
  go_enter Try.func27, Try.ntmps27
  go_wp2
  go_loopw [6] (fun v wr => ∃ (j : Nat) (b : Bool), j ≤ n ∧ v = .int .i64 j ∧ colsP l ws (n - j) j b = r ∧ wr.heap[ab]? = some (.cells #[.bool b] 4 (0, 0)) ∧ Fp (fun k => k = ab) w wr) (fun v _ => n - (intOf v).toNat)
  case atStart => exact ⟨0, true, Nat.zero_le _, rfl, HR.out, H2.out, Fp.refl _ _⟩
  case round =>
    obtain ⟨j, b, hj, rfl, hL, hP, hbr⟩ := hrel
    have hbw : Below w0.heap.size w0 wr := HB.out.trans (hbr.below HB.out.size (by intro i hi he; omega))
    have za := blk_lt hP
    have q1 : wr.cell? ⟨ab, 0, none⟩ = some (.bool b) := blk_cell hP 0
    have q2 : wr.frozen? ⟨ab, 0, none⟩ = false := blk_frozen hP 0
    have hp3 := (hbr.block _ (blk_lt H3.out) hra).trans H3.out
    have q3 : wr.cell? ⟨rb, 0, none⟩ = some (.slice A l.length c) := blk_cell hp3 0
    have hp4 := (hbr.block _ (blk_lt H4.out) hwa).trans H4.out
    have q4 : wr.cell? ⟨wb, 0, none⟩ = some (.slice A' ws.length c') := blk_cell hp4 0
    have z3 := blk_lt hp3
    have z4 := blk_lt hp4
    have HP := Lib.hid hP
    have HBR := Lib.hid hbr
    have HBW := Lib.hid hbw
    clear hP hbr hbw hp3 hp4
    by_cases hjl : j < n
    · rw [show n - j = n - (j + 1) + 1 by omega, colsP] at hL
      have EW := Lib.hid (wrapj (show j + 1 < 9223372036854775808 by omega))
      cases b with
      | false =>
        rw [if_neg (by decide)] at hL
        have HLL := Lib.hid hL
        clear hL
        go_wp2
        refine ⟨⟨j + 1, false, hjl, congrArg (Value.int .i64) (Int.natCast_succ j).symm, HLL.out, ?hblk, ?hfp⟩, ?_⟩
        case hblk => exact blk_alloc (blk_put HP.out 0 _ rfl) _
        case hfp => exact (HBR.out.setCell (a := ⟨ab, 0, none⟩) (fun _ => rfl) _).alloc _
        show n - ((j : Int) + 1).toNat < n - (j : Int).toNat
        omega
      | true =>
        rw [if_pos rfl] at hL
        have hcj := HCOL.out j hjl (wr.alloc (.cells #[.int .i64 (j : Int)] 3)) (HBW.out.alloc HBW.out.size _) wr.heap.size (blk_cell (blk_new wr _) 0)
        have HP0 := Lib.hid (blk_alloc HP.out (.cells #[.int .i64 (j : Int)] 3))
        cases hh : weighF ws (l.map fun r => r.f0.getD j 0) 0 with
        | none =>
          rw [hh] at hcj
          rw [hh, Option.bind_none] at hL
          obtain rfl : r = none := hL.symm
          have HCJ := Lib.hid hcj
          clear hcj hL hh
          go_wp2_with fail
          refine HCJ.out.mono ?_
          rintro e w2 ⟨he, hb2⟩
          obtain rfl : e = .panicked LargeL := he
          exact ⟨rfl, rfl, (HBR.out.alloc _).tr (Fp.of_below hb2)⟩
        | some s =>
          rw [hh] at hcj
          rw [hh, Option.bind_some] at hL
          have HCJ := Lib.hid hcj
          have HLL := Lib.hid hL
          clear hcj hL hh
          go_wp2_with fail
          refine HCJ.out.mono ?_
          rintro e w2 ⟨he, hb2⟩
          obtain rfl : e = .returned (.int .i64 s) := he
          have hp2 := (hb2.block ab (by simp; omega)).trans HP0.out
          have r1 : w2.cell? ⟨ab, 0, none⟩ = some (.bool true) := blk_cell hp2 0
          have r2 : w2.frozen? ⟨ab, 0, none⟩ = false := blk_frozen hp2 0
          have HP2 := Lib.hid hp2
          have HB2 := Lib.hid ((HBR.out.alloc _).tr (Fp.of_below (S := fun k => k = ab) hb2))
          clear hp2 hb2
          go_wp2
          refine ⟨⟨j + 1, s == 0, hjl, congrArg (Value.int .i64) (Int.natCast_succ j).symm, HLL.out, ?hblk, ?hfp⟩, ?_⟩
          case hblk => exact blk_put HP2.out 0 _ rfl
          case hfp => exact HB2.out.setCell (a := ⟨ab, 0, none⟩) (fun _ => rfl) _
          show n - ((j : Int) + 1).toNat < n - (j : Int).toNat
          omega
    · have hjj : j = n := by omega
      subst hjj
      rw [Nat.sub_self, colsP] at hL
      cases b with
      | false =>
        rw [if_neg (by decide)] at hL
        obtain rfl : r = some false := hL.symm
        clear hL
        go_wp2
        simp [bodyPost, results, Try.results27, go_sem]
        exact ⟨And.intro rfl (blk_put HP.out 0 _ rfl), HBR.out.setCell (a := ⟨ab, 0, none⟩) (fun _ => rfl) _⟩
      | true =>
        rw [if_pos rfl] at hL
        have hkk := HK.out wr HBW.out
        cases hh : weighF ws (l.map fun r => r.f1) 0 with
        | none =>
          rw [hh] at hkk
          rw [hh, Option.bind_none] at hL
          obtain rfl : r = none := hL.symm
          have HKK := Lib.hid hkk
          clear hkk hL hh
          go_wp2_with fail
          refine HKK.out.mono ?_
          rintro e w2 ⟨he, hb2⟩
          obtain rfl : e = .panicked LargeL := he
          exact ⟨rfl, rfl, HBR.out.tr (Fp.of_below hb2)⟩
        | some s =>
          rw [hh] at hkk
          rw [hh, Option.bind_some] at hL
          obtain rfl : r = some (decide (0 < s)) := hL.symm
          have HKK := Lib.hid hkk
          clear hkk hL hh
          go_wp2_with fail
          refine HKK.out.mono ?_
          rintro e w2 ⟨he, hb2⟩
          obtain rfl : e = .returned (.int .i64 s) := he
          have hp2 := (hb2.block ab za).trans HP.out
          have r1 : w2.cell? ⟨ab, 0, none⟩ = some (.bool true) := blk_cell hp2 0
          have r2 : w2.frozen? ⟨ab, 0, none⟩ = false := blk_frozen hp2 0
          have HP2 := Lib.hid hp2
          have HB2 := Lib.hid (HBR.out.tr (Fp.of_below (S := fun k => k = ab) hb2))
          clear hp2 hb2
          go_wp2
          simp [bodyPost, results, Try.results27, go_sem]
          exact ⟨And.intro rfl (blk_put HP2.out 0 _ rfl), HB2.out.setCell (a := ⟨ab, 0, none⟩) (fun _ => rfl) _⟩

end Go.Proofs.Ytdkbnbebioflaaa.Ln
end

section
/- linear.CheckFarkas, whole. -/
namespace Go.Proofs
theorem Z1k3 {p : Prop} (h : p := by first | exact Nat.le_refl _ | (simp; done) | (simp; omega) | omega) : p := h
theorem Z1k0 {p : Prop} (h : p := by exact (by repeat (first | exact Below.refl _ _ | with_reducible assumption | refine Below.alloc ?_ Z1k3 _ | refine Below.setCell ?_ Z1k3 _ | refine Below.drew ?_ | refine bdrewN ?_ _))) : p := h
theorem Z1k1 {p : Prop} (h : p := by first | exact Nat.le_refl _ | (simp; done) | (simp; omega) | omega) : p := h
theorem Z1k2 {p : Prop} (h : p := by repeat (first | exact Below.refl _ _ | with_reducible assumption | refine Below.alloc ?_ Z1k3 _ | refine Below.setCell ?_ Z1k3 _ | refine Below.drew ?_ | refine bdrewN ?_ _)) : p := h
end Go.Proofs
namespace Go.Proofs.Ytdkbnbebioflaaa.Ln
open Go.RowKit Go.Proofs.Ytdkbnbebioflaaa.Num Go.Proofs.Ytdkbnbebioflaaa.Given Go.Proofs.Ytdkbnbebioflaaa.Lin Go.Proofs.YtdkbnbebioflaaaW.PrintWords
set_option linter.unusedVariables false
set_option linter.unusedSimpArgs false

/-- linear.CheckFarkas. -/
def chkF (l : List S38) (ws : List Int) : Bool :=
  if l.length = ws.length then
    if ws.any (fun x => decide (x < 0)) = true then false
    else if l.length = 0 then false
    else if l.any (fun x => !((x.f0.length : Int) == ((l.getD 0 z38).f0.length : Int))) = true then false
    else outB (colsP l ws (l.getD 0 z38).f0.length 0 true)
  else false
theorem add_z (ad : Addr) : ad.add 0 = ad := by
  cases ad
  unfold Addr.add
  split <;> simp_all
theorem cf_farkas (args : Array Value) (w : World) : (callFunc 27 args).run Try.prog w = .ok (.enter 27 args) w := by kernel_rfl

set_option maxHeartbeats 8000000 in
set_option maxRecDepth 100000 in
theorem CheckFarkas_any (l : List S38) (ws : List Int) (A A' : Option Addr) (c c' : Nat) (w : World) (hC : Kd.C k38 w A l.length l) (hc : l.length ≤ c) (hV : (Kd.int .i64).C w A' ws.length ws) (hc' : ws.length ≤ c')
    (hin : ∀ r, r ∈ l → In64 r.f1 ∧ ∀ x, x ∈ r.f0 → In64 x) (hws : ∀ x, x ∈ ws → In64 x) :
    Calls Try.prog 10 #[.slice A l.length c, .slice A' ws.length c'] w fun e w' => e = .returned (.bool (chkF l ws)) ∧ Below w.heap.size w w' := by
  unfold chkF
  by_cases hl : l.length = ws.length
  · rw [if_pos hl]
    have e1 : ((l.length : Int) = (ws.length : Int)) = True := eq_true (by rw [hl])
    have HA := Lib.hid (fun W (hW : Below w.heap.size w W) => anyI (fun x => decide (x < 0)) ws A' c' w W hV hc' hW (fun x hx W2 _ => farkas1_any x W2))
    cases hany : ws.any (fun x => decide (x < 0)) with
    | true =>
      rw [hany] at HA
      rw [if_pos rfl]
      have HL := Lib.hid hl
      clear hC hV hin hws hany hl
      go_enter Try.func10, Try.ntmps10
      go_wp2_with fail
      refine (HA.out _ ?_).mono ?_
      · exact Z1k0
      rintro e w1 ⟨rfl, hb1⟩
      go_wp2
      go_ret
      exact ⟨rfl, by refine Below.trans ?_ (hb1.mono Z1k1); exact Z1k2⟩
    | false =>
      rw [hany] at HA
      rw [if_neg (by decide)]
      by_cases h0 : l.length = 0
      · rw [if_pos h0]
        have e2 : ((l.length : Int) == 0) = true := by rw [h0]; rfl
        have HL := Lib.hid hl
        clear hC hV hin hws hany hl h0
        go_enter Try.func10, Try.ntmps10
        go_wp2_with fail
        refine (HA.out _ ?_).mono ?_
        · exact Z1k0
        rintro e w1 ⟨rfl, hb1⟩
        have hz1 := hb1.size
        simp at hz1
        have k1 := hb1.block w.heap.size (by simp; omega)
        rw [blk_alloc (blk_new w _) _] at k1
        have q1 : w1.cell? ⟨w.heap.size, 0, none⟩ = some (.slice A l.length c) := blk_cell k1 0
        have HB1 := Lib.hid (show Below w.heap.size w w1 by refine Below.trans ?_ (hb1.mono Z1k1); exact Z1k2)
        clear hb1 k1
        go_wp2
        go_ret
        exact ⟨rfl, HB1.out⟩
      · rw [if_neg h0]
        have e2 : ((l.length : Int) == 0) = false := beq_eq_false_iff_ne.2 (by omega)
        have e1b : ((l.length : Int) != (ws.length : Int)) = false := by rw [hl]; simp
        have hpos : 0 < l.length := by omega
        obtain ⟨ad, B, d, e, x0, _, l', _⟩ := el_R hC hpos
        rw [show l.getD 0 z38 = l[0] by simp [List.getElem?_eq_getElem hpos]]
        obtain ⟨n, hn⟩ : ∃ n, l[0].f0.length = n := ⟨_, rfl⟩
        have hmax := Kd.C_max ‹(Kd.int .i64).C w B l[0].f0.length l[0].f0›
        rw [hn] at x0 l' hmax ⊢
        rw [Nat.zero_mul] at x0
        have zx := World.block_lt_of_cell? w _ x0
        have HX0 := Lib.hid x0
        subst e
        have HR := Lib.hid (fun nb w2 (hB : Below w.heap.size w w2) (hnb : w2.cell? ⟨nb, 0, none⟩ = some (.int .i64 n)) => anyR (fun x => !((x.f0.length : Int) == (n : Int))) l (some ad) c (.pointer (some ⟨nb, 0, none⟩)) w w2 hC hc hB (fun x hx B d W hW => farkas2_any x B d nb n W (kcell hW hnb)))
        have HF := Lib.hid (fun (hn : ∀ r, r ∈ l → r.f0.length = n) => fun nb ab rb wb w2 hB h1 h2 h3 h4 ha hna hra hwa => farkas3_any l ws n (some ad) A' c c' nb ab rb wb w w2 hC hc hV hc' hB hl hin hn hmax hws h1 h2 h3 h4 ha hna hra hwa)
        obtain ⟨o, ho⟩ : ∃ o, colsP l ws n 0 true = o := ⟨_, rfl⟩
        rw [ho] at HF ⊢
        obtain ⟨bb, hbb⟩ : ∃ bb, l.any (fun x => !((x.f0.length : Int) == (n : Int))) = bb := ⟨_, rfl⟩
        rw [hbb] at HR ⊢
        have HBB := Lib.hid hbb
        clear hbb
        have HL := Lib.hid hl
        have H0 := Lib.hid h0
        clear hC hV hin hws hany hl h0 x0 hn ho
        go_enter Try.func10, Try.ntmps10
        go_wp2_with fail
        refine (HA.out _ ?_).mono ?_
        · exact Z1k0
        rintro e w1 ⟨rfl, hb1⟩
        have hz1 := hb1.size
        simp at hz1
        have k1 := hb1.block w.heap.size (by simp; omega)
        rw [blk_alloc (blk_new w _) _] at k1
        have k2 := hb1.block (w.heap.size + 1) (by simp)
        rw [show w.heap.size + 1 = (w.alloc (.cells #[.slice (some ad) l.length c] 22)).heap.size by simp, blk_new] at k2
        have q1 : w1.cell? ⟨w.heap.size, 0, none⟩ = some (.slice (some ad) l.length c) := blk_cell k1 0
        have HB1 := Lib.hid (show Below w.heap.size w w1 by refine Below.trans ?_ (hb1.mono Z1k1); exact Z1k2)
        have x0 : w1.cell? ad = some (.slice B n d) := by have h := kcell HB1.out HX0.out; rwa [add_z] at h
        have hlt1 : w.heap.size < w1.heap.size := by omega
        have hne1 : w.heap.size ≠ w1.heap.size := by omega
        have hlt2 : w.heap.size + 1 < w1.heap.size := by omega
        have hne2 : w.heap.size + 1 ≠ w1.heap.size := by omega
        have K1 := Lib.hid k1
        have K2 := Lib.hid k2
        clear hb1 k1 k2
        go_wp2_with fail
        have hnb : (w1.alloc (.cells #[.int .i64 n] 3)).cell? ⟨w1.heap.size, 0, none⟩ = some (.int .i64 n) := blk_cell (blk_new w1 _) 0
        have HB2 := Lib.hid (HB1.out.alloc HB1.out.size (.cells #[.int .i64 n] 3))
        have hr := HR.out w1.heap.size _ HB2.out hnb
        cases bb with
        | true =>
          refine hr.mono ?_
          rintro e w2 ⟨rfl, hb2⟩
          have HB3 := Lib.hid (HB2.out.trans (hb2.mono HB2.out.size))
          clear hb2 hr
          go_wp2
          go_ret
          exact ⟨rfl, HB3.out⟩
        | false =>
          refine hr.mono ?_
          rintro e w2 ⟨rfl, hb2⟩
          have hz2 := hb2.size
          simp at hz2
          have HB3 := Lib.hid (HB2.out.trans (hb2.mono HB2.out.size))
          have n1 := Lib.hid ((hb2.block _ (by simp; omega)).trans (blk_alloc K1.out _))
          have n2 := Lib.hid ((hb2.block _ (by simp; omega)).trans (blk_alloc K2.out _))
          have n3 := Lib.hid ((hb2.block _ (by simp)).trans (blk_new w1 (.cells #[.int .i64 n] 3)))
          clear hb2 hr hnb
          go_wp2_with fail
          have hrow : ∀ r, r ∈ l → r.f0.length = n := by
            intro r hr
            have := List.any_eq_false.1 HBB.out r hr
            simp at this
            omega
          have hne : w2.heap.size ≠ (w2.alloc (.cells #[.bool true] 4)).heap.size := by simp
          have HN := Lib.hid hne
          clear hne
          have hcall : ∀ W, Below (w2.alloc (.cells #[.bool true] 4)).heap.size (w2.alloc (.cells #[.bool true] 4)) W → Calls Try.prog 27 #[.pointer (some ⟨w1.heap.size, 0, none⟩), .pointer (some ⟨w2.heap.size, 0, none⟩), .pointer (some ⟨w.heap.size, 0, none⟩), .pointer (some ⟨w.heap.size + 1, 0, none⟩)] W fun e w' => PointEnd w2.heap.size o e w' ∧ Fp (fun k => k = w2.heap.size) W w' := by
            intro W hW
            refine HF.out hrow _ _ _ _ W (((HB3.out.alloc HB3.out.size _)).trans (hW.mono (by simp; omega))) ((hW.block _ (by simp; omega)).trans (blk_alloc n3.out _)) ((hW.block _ (by simp)).trans (blk_new _ _)) ((hW.block _ (by simp; omega)).trans (blk_alloc n1.out _)) ((hW.block _ (by simp; omega)).trans (blk_alloc ?_ _)) (by omega) (by omega) (by omega) (by omega)
            have := n2.out
            simpa using this
          have HC := Lib.hid hcall
          clear hcall hrow
          cases o with
          | none =>
            refine (fits_no 27 _ (fun k => k = w2.heap.size) (fun _ => True) _ (by rintro k rfl; simp) (cf_farkas _) (fun W hW => (HC.out W hW).mono (fun e w' h => ⟨h.1, h.2, trivial⟩))).mono ?_
            rintro e w3 ⟨rfl, hF, _⟩
            have HF3 := Lib.hid hF
            clear hF
            go_wp2
            go_ret
            exact ⟨rfl, (HB3.out.alloc HB3.out.size _).trans (HF3.out.below (by simp; omega) (by intro i hi he; omega))⟩
          | some b =>
            refine (fits_ok 27 _ (fun k => k = w2.heap.size) (fun W => W.heap[w2.heap.size]? = some (.cells #[.bool b] 4 (0, 0))) _ (by rintro k rfl; simp) (cf_farkas _) (fun W hW => (HC.out W hW).mono (fun e w' h => ⟨h.1.1, h.2, h.1.2⟩))).mono ?_
            rintro e w3 ⟨rfl, hF, W', hQ, hsz, hk⟩
            have q3 : w3.cell? ⟨w2.heap.size, 0, none⟩ = some (.bool b) := blk_cell ((hk _ (blk_lt hQ) HN.out).trans hQ) 0
            have HF3 := Lib.hid hF
            clear hF hk hQ hsz
            go_wp2
            go_ret
            exact ⟨rfl, (HB3.out.alloc HB3.out.size _).trans (HF3.out.below (by simp; omega) (by intro i hi he; omega))⟩
  · rw [if_neg hl]
    have e1 : ((l.length : Int) = (ws.length : Int)) = False := eq_false (fun h => hl (by omega))
    have HL := Lib.hid hl
    clear hC hV hin hws hl
    go_enter Try.func10, Try.ntmps10
    go_wp2
    go_ret
    exact ⟨rfl, Z1k2⟩

end Go.Proofs.Ytdkbnbebioflaaa.Ln
end

section
/- chkF is checkFarkas. -/
namespace Go.Proofs.Ytdkbnbebioflaaa.Ln
open Go.RowKit Go.Proofs.Ytdkbnbebioflaaa.Num Go.Proofs.Ytdkbnbebioflaaa.Given Go.Proofs.Ytdkbnbebioflaaa.Lin Go.Proofs.YtdkbnbebioflaaaW.PrintWords
set_option linter.unusedVariables false
set_option linter.unusedSimpArgs false

theorem colsP_false (l : List S38) (ws : List Int) : ∀ d i, colsP l ws d i false = some false
  | 0, i => by rw [colsP, if_neg (by decide)]
  | d + 1, i => by rw [colsP, if_neg (by decide), colsP_false l ws d (i + 1)]
theorem colsP_true (l : List S38) (ws : List Int) : ∀ d i, outB (colsP l ws d i true) =
    ((List.range' i d).all (fun k => weighF ws (l.map fun r => r.f0.getD k 0) 0 == some 0) && match weighF ws (l.map fun r => r.f1) 0 with | some s => decide (0 < s) | none => false)
  | 0, i => by
    rw [colsP, if_pos rfl, List.range'_zero, List.all_nil, Bool.true_and]
    cases weighF ws (l.map fun r => r.f1) 0 <;> rfl
  | d + 1, i => by
    rw [colsP, if_pos rfl, List.range'_succ, List.all_cons]
    cases h : weighF ws (l.map fun r => r.f0.getD i 0) 0 with
    | none => rfl
    | some s =>
      rw [Option.bind_some]
      cases hs : (s == 0) with
      | true =>
        have e : s = 0 := by simpa using hs
        subst e
        rw [colsP_true l ws d (i + 1)]
        simp
      | false =>
        rw [colsP_false]
        have e : s ≠ 0 := by simpa using hs
        simp [outB, e]
theorem chkF_is (l : List S38) (ws : List Int) : chkF l ws = checkFarkas (l.map toZ) ws := by
  unfold chkF checkFarkas
  by_cases h1 : l.length = ws.length
  · rw [if_pos h1, List.length_map, decide_eq_true h1, Bool.true_and]
    have e2 : (ws.all fun x => decide (0 ≤ x)) = !(ws.any fun x => decide (x < 0)) := by
      rw [List.all_eq_not_any_not]
      congr 1
      congr 1
      funext x
      by_cases h : x < 0
      · simp [h]
      · simp [h]; omega
    rw [e2]
    cases ws.any (fun x => decide (x < 0)) with
    | true => rw [if_pos rfl]; rfl
    | false =>
      rw [if_neg (by decide)]
      cases l with
      | nil => rfl
      | cons r l =>
        rw [if_neg (by simp)]
        have e3 : (((r :: l).map toZ).all fun q => decide (q.1.length = widthZ ((r :: l).map toZ))) = !((r :: l).any fun x => !((x.f0.length : Int) == (((r :: l).getD 0 z38).f0.length : Int))) := by
          show _ = !((r :: l).any fun x => !((x.f0.length : Int) == (r.f0.length : Int)))
          rw [List.all_map, List.all_eq_not_any_not]
          congr 1
          congr 1
          funext x
          show (!decide (x.f0.length = r.f0.length)) = _
          by_cases h : x.f0.length = r.f0.length
          · simp [h]
          · simp [h]; omega
        rw [e3]
        have e4 : decide ((r :: l).map toZ ≠ []) = true := by simp
        rw [e4]
        cases (r :: l).any (fun x => !((x.f0.length : Int) == (((r :: l).getD 0 z38).f0.length : Int))) with
        | true => rw [if_pos rfl]; rfl
        | false =>
          rw [if_neg (by decide)]
          show outB (colsP (r :: l) ws r.f0.length 0 true) = _
          rw [colsP_true, ← List.range_eq_range']
          unfold colZ kZ
          simp only [Bool.not_false, Bool.true_and, Bool.and_true, List.map_map]
          rfl
  · rw [if_neg h1, List.length_map, decide_eq_false h1]; rfl

end Go.Proofs.Ytdkbnbebioflaaa.Ln
end

section
/- linear.may. -/
namespace Go.Proofs
theorem Z1n0 {p : Prop} (h : p := by repeat (first | exact Below.refl _ _ | with_reducible assumption | refine Below.alloc ?_ (by first | exact Nat.le_refl _ | (simp; done) | (simp; omega) | omega) _ | refine Below.setCell ?_ (by first | exact Nat.le_refl _ | (simp; done) | (simp; omega) | omega) _ | refine Below.drew ?_ | refine bdrewN ?_ _)) : p := h
theorem Z1n1 {p : Prop} (h : p := by first | exact Nat.le_refl _ | (simp; done) | (simp; omega) | omega) : p := h
end Go.Proofs
namespace Go.Proofs.Ytdkbnbebioflaaa.Ln
open Go.RowKit Go.Proofs.Ytdkbnbebioflaaa.Num Go.Proofs.Ytdkbnbebioflaaa.Given Go.Proofs.Ytdkbnbebioflaaa.Lin Go.Proofs.YtdkbnbebioflaaaW.PrintWords
set_option linter.unusedVariables false
set_option linter.unusedSimpArgs false

def mayB (l : List S38) (v : Int) : Bool :=
  if 0 ≤ v then if v ≤ 64 then if (l.length : Int) ≤ 256 then !(l.any fun x => !((x.f0.length : Int) == v)) else false else false else false
theorem mayB_is (l : List S38) (v : Int) : mayB l v = mayQ (l.map toZ) v := by
  unfold mayB mayQ
  have e3 : ((l.map toZ).all fun q => decide ((q.1.length : Int) = v)) = !(l.any fun x => !((x.f0.length : Int) == v)) := by
    rw [List.all_map, List.all_eq_not_any_not]
    have : (fun x : S38 => !((fun q : RowZ => decide ((q.1.length : Int) = v)) ∘ toZ) x) = fun x => !((x.f0.length : Int) == v) := by
      funext x
      show (!decide ((x.f0.length : Int) = v)) = _
      by_cases h : (x.f0.length : Int) = v
      · simp [h]
      · simp [h]
    rw [this]
  rw [e3, List.length_map]
  by_cases h0 : 0 ≤ v
  · by_cases h1 : v ≤ 64
    · by_cases h2 : (l.length : Int) ≤ 256
      · rw [if_pos h0, if_pos h1, if_pos h2]; simp [h0, h1, show l.length ≤ 256 by omega]
      · rw [if_pos h0, if_pos h1, if_neg h2]; simp [h0, h1, show ¬ l.length ≤ 256 by omega]
    · rw [if_pos h0, if_neg h1]; simp [h0, h1]
  · rw [if_neg h0]; simp [h0]

set_option maxHeartbeats 8000000 in
set_option maxRecDepth 100000 in
theorem may_any (l : List S38) (v : Int) (A : Option Addr) (c : Nat) (w : World) (hC : Kd.C k38 w A l.length l) (hc : l.length ≤ c) :
    Calls Try.prog 31 #[.slice A l.length c, .int .i64 v] w fun e w' => e = .returned (.bool (mayB l v)) ∧ Below w.heap.size w w' := by
  have hmf := run_makeFunc
  have HR := Lib.hid (fun nb w2 (hB : Below w.heap.size w w2) (hnb : w2.cell? ⟨nb, 0, none⟩ = some (.int .i64 v)) => anyM (fun x => !((x.f0.length : Int) == v)) l A c (.pointer (some ⟨nb, 0, none⟩)) w w2 hC hc hB (fun x hx B d W hW => may1_any x B d nb v W (kcell hW hnb)))
  clear hC
  unfold mayB
  by_cases h0 : 0 ≤ v
  · by_cases h1 : v ≤ 64
    · by_cases h2 : (l.length : Int) ≤ 256
      · rw [if_pos h0, if_pos h1, if_pos h2]
        have e0 : decide (0 ≤ v) = true := decide_eq_true h0
        have e1 : decide (v ≤ 64) = true := decide_eq_true h1
        have e2 : decide ((l.length : Int) ≤ 256) = true := decide_eq_true h2
        clear h0 h1 h2
        go_enter Try.func31, Try.ntmps31
        go_wp2_with fail
        refine (HR.out _ _ ?_ ?_).mono ?_
        · exact Z1n0
        · exact blk_cell (blk_new w _) 0
        rintro e w1 ⟨rfl, hb1⟩
        go_wp2
        go_ret
        exact ⟨rfl, by refine Below.trans ?_ (hb1.mono Z1n1); exact Z1n0⟩
      · rw [if_pos h0, if_pos h1, if_neg h2]
        have e0 : decide (0 ≤ v) = true := decide_eq_true h0
        have e1 : decide (v ≤ 64) = true := decide_eq_true h1
        have e2 : decide ((l.length : Int) ≤ 256) = false := decide_eq_false h2
        clear h0 h1 h2
        go_enter Try.func31, Try.ntmps31
        go_wp2
        go_ret
        exact ⟨rfl, Z1n0⟩
    · rw [if_pos h0, if_neg h1]
      have e0 : decide (0 ≤ v) = true := decide_eq_true h0
      have e1 : decide (v ≤ 64) = false := decide_eq_false h1
      clear h0 h1
      go_enter Try.func31, Try.ntmps31
      go_wp2
      go_ret
      exact ⟨rfl, Z1n0⟩
  · rw [if_neg h0]
    have e0 : decide (0 ≤ v) = false := decide_eq_false h0
    clear h0
    go_enter Try.func31, Try.ntmps31
    go_wp2
    go_ret
    exact ⟨rfl, Z1n0⟩

end Go.Proofs.Ytdkbnbebioflaaa.Ln
end

section
/- linear's CheckPoint and CheckFarkas, in the form in which a printed text meets a callee. -/
namespace Go.Proofs.Ytdkbnbebioflaaa.Given
open Go.RowKit Go.Proofs.Ytdkbnbebioflaaa.Num Go.Proofs.Ytdkbnbebioflaaa.Ln Go.Proofs.YtdkbnbebioflaaaW.PrintWords

def RowIn (r : S38) : Prop := In64 r.f1 ∧ ∀ x, x ∈ r.f0 → In64 x
instance (r : S38) : Decidable (RowIn r) := by unfold RowIn In64; infer_instance
def RatIn (x : S29) : Prop := In64 x.f0 ∧ In64 x.f1
instance (x : S29) : Decidable (RatIn x) := by unfold RatIn In64; infer_instance
instance (x : Int) : Decidable (In64 x) := by unfold In64; infer_instance

def linear_CheckPoint.f (l0 : List S38) (l1 : List S29) : Option Bool := if (∀ r, r ∈ l0 → RowIn r) ∧ ∀ x, x ∈ l1 → RatIn x then some (chkP l0 l1) else none
theorem linear_CheckPoint.calls (A0 : Option Addr) (c0 : Nat) (l0 : List S38) (A1 : Option Addr) (c1 : Nat) (l1 : List S29) (r : Bool) (w : World) (hr0 : Kd.C k38 w A0 l0.length l0) (hc0 : l0.length ≤ c0) (hr1 : Kd.C k29 w A1 l1.length l1) (hc1 : l1.length ≤ c1) (h : linear_CheckPoint.f l0 l1 = some r) :
    Calls Try.prog 9 #[.slice A0 l0.length c0, .slice A1 l1.length c1] w fun e w' => e = .returned (.bool r) ∧ Below w.heap.size w w' := by
  unfold linear_CheckPoint.f at h
  split at h
  · rename_i hd
    rw [← Option.some.inj h]
    exact CheckPoint_any l0 l1 A0 A1 c0 c1 w hr0 hc0 hr1 hc1 hd.1 hd.2
  · cases h

def linear_CheckFarkas.f (l0 : List S38) (l1 : List Int) : Option Bool := if (∀ r, r ∈ l0 → RowIn r) ∧ ∀ x, x ∈ l1 → In64 x then some (chkF l0 l1) else none
theorem linear_CheckFarkas.calls (A0 : Option Addr) (c0 : Nat) (l0 : List S38) (A1 : Option Addr) (c1 : Nat) (l1 : List Int) (r : Bool) (w : World) (hr0 : Kd.C k38 w A0 l0.length l0) (hc0 : l0.length ≤ c0) (hr1 : Kd.C (Kd.int .i64) w A1 l1.length l1) (hc1 : l1.length ≤ c1) (h : linear_CheckFarkas.f l0 l1 = some r) :
    Calls Try.prog 10 #[.slice A0 l0.length c0, .slice A1 l1.length c1] w fun e w' => e = .returned (.bool r) ∧ Below w.heap.size w w' := by
  unfold linear_CheckFarkas.f at h
  split at h
  · rename_i hd
    rw [← Option.some.inj h]
    exact CheckFarkas_any l0 l1 A0 A1 c0 c1 w hr0 hc0 hr1 hc1 hd.1 hd.2
  · cases h

end Go.Proofs.Ytdkbnbebioflaaa.Given
end

section
/- Rows of rats of the call's own: read, written. -/
namespace Go.Proofs.Ytdkbnbebioflaaa.Ln
open Go.RowKit Go.Proofs.Ytdkbnbebioflaaa.Num Go.Proofs.Ytdkbnbebioflaaa.Given Go.Proofs.Ytdkbnbebioflaaa.Lin Go.Proofs.YtdkbnbebioflaaaW.PrintWords
set_option linter.unusedVariables false
set_option linter.unusedSimpArgs false

def flatQ : List Rat → List Value
  | [] => []
  | x :: l => .int .i64 x.num :: .int .i64 x.den :: flatQ l
theorem flatQ_len : ∀ l, (flatQ l).length = l.length * 2
  | [] => rfl
  | x :: l => by rw [flatQ, List.length_cons, List.length_cons, flatQ_len l, List.length_cons]; omega
theorem flatQ_app : ∀ l m, flatQ (l ++ m) = flatQ l ++ flatQ m
  | [], m => rfl
  | x :: l, m => by rw [List.cons_append, flatQ, flatQ_app l m, flatQ]; rfl
theorem flatQ_get : ∀ {l : List Rat} {i : Nat} (h : i < l.length), (flatQ l)[i * 2]? = some (.int .i64 l[i].num) ∧ (flatQ l)[i * 2 + 1]? = some (.int .i64 l[i].den)
  | x :: l, 0, h => ⟨rfl, rfl⟩
  | x :: l, i + 1, h => by
    have ih := flatQ_get (l := l) (i := i) (by simpa using h)
    rw [show (i + 1) * 2 = i * 2 + 1 + 1 by omega, flatQ]
    exact ih
theorem flatQ_set : ∀ (l : List Rat) (i : Nat) (x : Rat), flatQ (l.set i x) = ((flatQ l).set (i * 2) (.int .i64 x.num)).set (i * 2 + 1) (.int .i64 x.den)
  | [], i, x => by simp [flatQ]
  | y :: l, 0, x => rfl
  | y :: l, i + 1, x => by
    rw [List.set_cons_succ, flatQ, flatQ_set l i x, show (i + 1) * 2 = i * 2 + 1 + 1 by omega, flatQ]
    rfl
/-- A row of rats of the call's own. -/
def RowQ (w : World) (base : Nat) (v : Value) (l : List Rat) : Prop := w.ownsRow base 29 2 v l.length (flatQ l)
theorem rowQ_at {w : World} {base : Nat} {v : Value} {l : List Rat} (h : RowQ w base v l) {i : Nat} (hi : i < l.length) :
    ∃ g cap, v = .slice (some ⟨g, 0, none⟩) l.length cap ∧ base ≤ g ∧ l.length ≤ cap ∧ w.cell? ⟨g, i * 2, none⟩ = some (.int .i64 l[i].num) ∧ w.cell? ⟨g, i * 2 + 1, none⟩ = some (.int .i64 l[i].den) ∧ ∀ k, w.frozen? ⟨g, k, none⟩ = false := by
  obtain ⟨hl, hv⟩ := h
  rcases hv with ⟨_, h0⟩ | ⟨g, cap, cur, rfl, hg, hb, hn, hm, hs, ht⟩
  · omega
  · obtain ⟨a, b⟩ := flatQ_get hi
    rw [← ht, List.getElem?_take] at a b
    refine ⟨g, cap, rfl, hg, hn, ?_, ?_, fun k => by simp [World.frozen?, hb]⟩
    · split at a
      · rw [cell_of_row w g _ cur _ (0, 0) hb]; simpa using a
      · cases a
    · split at b
      · rw [cell_of_row w g _ cur _ (0, 0) hb]; simpa using b
      · cases b
theorem rowQ_set {w : World} {base g n cap : Nat} {l : List Rat} (h : RowQ w base (.slice (some ⟨g, 0, none⟩) n cap) l) (i : Nat) (hi : i < l.length) (x : Rat) :
    RowQ ((w.setCell ⟨g, i * 2, none⟩ (.int .i64 x.num)).setCell ⟨g, i * 2 + 1, none⟩ (.int .i64 x.den)) base (.slice (some ⟨g, 0, none⟩) n cap) (l.set i x) := by
  obtain ⟨hl, hv⟩ := h
  refine ⟨by rw [flatQ_len], ?_⟩
  rcases hv with ⟨h1, _⟩ | ⟨g', cap', cur, e, hg, hb, hn, hm, hs, ht⟩
  · cases h1
  · injection e with e1 e2 e3
    injection e1 with e1
    injection e1 with e1
    subst e1
    subst e2
    subst e3
    refine .inr ⟨g, cap, (cur.setIfInBounds (i * 2) (.int .i64 x.num)).setIfInBounds (i * 2 + 1) (.int .i64 x.den), by rw [List.length_set], hg, blk_put (blk_put hb _ _ rfl) _ _ rfl, by rw [List.length_set]; exact hn, hm, by simpa using hs, ?_⟩
    rw [List.length_set, flatQ_set, ← ht]
    simp only [Array.toList_setIfInBounds, List.take_set]

end Go.Proofs.Ytdkbnbebioflaaa.Ln
end
