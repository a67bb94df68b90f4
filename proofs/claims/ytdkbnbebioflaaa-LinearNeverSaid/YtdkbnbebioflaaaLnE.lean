/- linear.CheckPoint. -/
import Derived.Test.YtdkbnbebioflaaaLnD
namespace Go.Proofs
theorem Z1a0 {p : Prop} (h : p := by first | exact Nat.le_refl _ | (simp; done) | (simp; omega) | omega) : p := h
end Go.Proofs
namespace Go.Proofs.Ytdkbnbebioflaaa.Ln
open Go.RowKit Go.Proofs.Ytdkbnbebioflaaa.Num Go.Proofs.Ytdkbnbebioflaaa.Given Go.Proofs.Ytdkbnbebioflaaa.Lin Go.Proofs.YtdkbnbebioflaaaW.PrintWords
set_option linter.unusedVariables false
set_option linter.unusedSimpArgs false

theorem point1_any (x : S29) (w : World) (h0 : In64 x.f0) (h1 : In64 x.f1) :
    Calls Try.prog 18 #[.agg #[.int .i64 x.f0, .int .i64 x.f1]] w fun e w' => e = .returned (.bool (!rightPQ x.f0 x.f1)) ∧ Below w.heap.size w w' := by
  have HR := Lib.hid (fun W => right_any x.f0 x.f1 W h0 h1)
  clear h0 h1
  go_enter Try.func18, Try.ntmps18
  go_wp2_with fail
  refine (HR.out _).mono ?_
  rintro e w1 ⟨rfl, hb1⟩
  go_wp2
  go_ret
  exact ⟨rfl, by refine Below.trans ?_ (hb1.mono Z1a0); exact (by repeat (first | exact Below.refl _ _ | with_reducible assumption | refine Below.alloc ?_ Z1a0 _ | refine Below.setCell ?_ Z1a0 _ | refine Below.drew ?_ | refine bdrewN ?_ _))⟩

/-- Are all rows true? none: a number does not fit. -/
def loopP (xs : List Rat) : List S38 → Bool → Option Bool
  | [], b => some b
  | r :: rs, b => if b = true ∧ r.f0.length = xs.length then (holdF r.f0 xs (r.f1 : Rat)).bind fun s => loopP xs rs (decide (s ≤ 0)) else loopP xs rs false
def PointEnd (ab : Nat) (o : Option Bool) (e : Ending) (w' : World) : Prop := match o with
  | some b => e = .returned (.tuple #[]) ∧ w'.heap[ab]? = some (.cells #[.bool b] 4 (0, 0))
  | none => e = .panicked LargeL

set_option maxHeartbeats 8000000 in
set_option maxRecDepth 100000 in
theorem point2_any (l : List S38) (xs : List Rat) (pts : List S29) (b0 : Bool) (A A' : Option Addr) (c c' : Nat) (rb ab pb : Nat) (w0 w : World) (hC : Kd.C k38 w0 A l.length l) (hc : l.length ≤ c) (hX : Kd.C k29 w0 A' pts.length pts) (hc' : pts.length ≤ c') (hB : Below w0.heap.size w0 w)
    (hin : ∀ r, r ∈ l → In64 r.f1 ∧ ∀ x, x ∈ r.f0 → In64 x) (hlen : pts.length = xs.length) (hpt : b0 = true → pts = xs.map ofQ ∧ ∀ x, x ∈ xs → Fit x)
    (h1 : w.heap[rb]? = some (.cells #[.slice A l.length c] 22 (0, 0))) (h2 : w.heap[ab]? = some (.cells #[.bool b0] 4 (0, 0))) (h3 : w.heap[pb]? = some (.cells #[.slice A' pts.length c'] 27 (0, 0))) (ha : w0.heap.size ≤ ab) (hra : rb ≠ ab) (hpa : pb ≠ ab) :
    Calls Try.prog 21 #[.pointer (some ⟨rb, 0, none⟩), .pointer (some ⟨ab, 0, none⟩), .pointer (some ⟨pb, 0, none⟩)] w fun e w' => PointEnd ab (loopP xs l b0) e w' ∧ Fp (fun k => k = ab) w w' := by
  obtain ⟨r, hr⟩ : ∃ r, loopP xs l b0 = r := ⟨_, rfl⟩
  rw [hr]
  have HC := Lib.hid hC
  have HX := Lib.hid hX
  have HB := Lib.hid hB
  have HI := Lib.hid hin
  have HL := Lib.hid hlen
  have HR := Lib.hid hr
  have HPT := Lib.hid hpt
  have H1 := Lib.hid h1
  have H2 := Lib.hid h2
  have H3 := Lib.hid h3
  have p1 : w.cell? ⟨rb, 0, none⟩ = some (.slice A l.length c) := blk_cell h1 0
  clear hC hX hB hin hr hlen hpt h1 h2 h3
  go_enter Try.func21, Try.ntmps21
  go_wp2
  go_loopw [7] (fun v wr => ∃ (j : Nat) (b : Bool), j ≤ l.length ∧ v = .int .i64 j ∧ (b = true → b0 = true) ∧ loopP xs (l.drop j) b = r ∧ wr.heap[ab]? = some (.cells #[.bool b] 4 (0, 0)) ∧ Fp (fun k => k = ab) w wr) (fun v _ => l.length - (intOf v).toNat)
  case atStart => exact ⟨0, b0, Nat.zero_le _, rfl, id, by rw [List.drop_zero]; exact HR.out, H2.out, Fp.refl _ _⟩
  case round =>
    obtain ⟨j, b, hj, rfl, hbb, hL, hP, hbr⟩ := hrel
    by_cases hjl : j < l.length
    · have hmax := Kd.C_max HC.out
      obtain ⟨ad, B, d, e, x0, x1, l', C'⟩ := el_R HC.out hjl
      have hbw : Below w0.heap.size w0 wr := HB.out.trans (hbr.below HB.out.size (by intro i hi he; omega))
      have hin := HI.out _ (List.getElem_mem hjl)
      rw [List.drop_eq_getElem_cons hjl, loopP] at hL
      generalize l[j] = x at *
      replace x0 := (hbw.cell (World.block_lt_of_cell? w0 _ x0)).trans x0
      replace x1 := (hbw.cell (World.block_lt_of_cell? w0 _ x1)).trans x1
      subst e
      have EW := Lib.hid (wrapj (succ_lt hjl hmax))
      have za := blk_lt hP
      have q1 : wr.cell? ⟨ab, 0, none⟩ = some (.bool b) := blk_cell hP 0
      have q2 : wr.frozen? ⟨ab, 0, none⟩ = false := blk_frozen hP 0
      have hp3 := (hbr.block _ (blk_lt H3.out) hpa).trans H3.out
      have q3 : wr.cell? ⟨pb, 0, none⟩ = some (.slice A' pts.length c') := blk_cell hp3 0
      have zp := blk_lt hp3
      have HP3 := Lib.hid hp3
      have HP := Lib.hid hP
      have HBR := Lib.hid hbr
      have HBW := Lib.hid hbw
      have HCx := Lib.hid C'
      have HIx := Lib.hid hin
      clear hP hbr hbw hp3 C' hin hmax
      cases b with
      | false =>
        rw [if_neg (fun h => absurd h.1 (by decide))] at hL
        have HLL := Lib.hid hL
        clear hL
        go_wp2
        refine ⟨⟨j + 1, false, hjl, congrArg (Value.int .i64) EW.out, fun h => absurd h (by decide), HLL.out, ?hblk, ?hfp⟩, ?_⟩
        case hblk => exact blk_alloc (blk_put HP.out 0 _ rfl) _
        case hfp => exact (HBR.out.setCell (a := ⟨ab, 0, none⟩) (fun _ => rfl) _).alloc _
        rw [EW.out]
        simp only [intOf, Int.toNat_natCast]
        exact meas_lt hjl
      | true =>
        obtain ⟨hpe, hfit⟩ := HPT.out (hbb rfl)
        by_cases hxl : x.f0.length = pts.length
        · rw [if_pos ⟨rfl, hxl.trans HL.out⟩] at hL
          have e1 : ((x.f0.length : Int) == (pts.length : Int)) = true := by rw [hxl]; exact beq_self_eq_true _
          have HXX := HX.out
          rw [hpe] at HXX
          have hh2 := fun W (hW : Below w0.heap.size w0 W) => holds_any x.f0 x.f1 xs B A' d c' w0 W (hxl.trans HL.out) HCx.out l' HXX (by rw [← HL.out]; exact hc') hW HIx.out.1 HIx.out.2 hfit
          rw [hxl, ← HL.out] at hh2
          have HH := Lib.hid hh2
          clear hh2
          clear hfit HXX hpe
          cases hh : holdF x.f0 xs (x.f1 : Rat) with
          | none =>
            rw [hh, Option.bind_none] at hL
            obtain rfl : r = none := hL.symm
            rw [hh] at HH
            clear hL hh
            go_wp2_with fail
            refine (HH.out _ (HBW.out.alloc HBW.out.size _)).mono ?_
            rintro e w2 ⟨he, hb2⟩
            obtain rfl : e = .panicked LargeL := he
            exact ⟨rfl, rfl, (HBR.out.alloc _).tr (Fp.of_below hb2)⟩
          | some s =>
            rw [hh, Option.bind_some] at hL
            rw [hh] at HH
            have HLL := Lib.hid hL
            clear hL hh
            go_wp2_with fail
            refine (HH.out _ (HBW.out.alloc HBW.out.size _)).mono ?_
            rintro e w2 ⟨he, hb2⟩
            obtain rfl : e = .returned (.bool (decide (s ≤ 0))) := he
            have hp2 := (hb2.block ab (by simp; omega)).trans (blk_alloc HP.out _)
            have r1 : w2.cell? ⟨ab, 0, none⟩ = some (.bool true) := blk_cell hp2 0
            have r2 : w2.frozen? ⟨ab, 0, none⟩ = false := blk_frozen hp2 0
            have HP2 := Lib.hid hp2
            have HB2 := Lib.hid ((HBR.out.alloc _).tr (Fp.of_below (S := fun k => k = ab) hb2))
            clear hp2 hb2
            go_wp2
            refine ⟨⟨j + 1, decide (s ≤ 0), hjl, congrArg (Value.int .i64) EW.out, fun _ => hbb trivial, HLL.out, ?hblk, ?hfp⟩, ?_⟩
            case hblk => exact blk_put HP2.out 0 _ rfl
            case hfp => exact HB2.out.setCell (a := ⟨ab, 0, none⟩) (fun _ => rfl) _
            rw [EW.out]
            simp only [intOf, Int.toNat_natCast]
            exact meas_lt hjl
        · rw [if_neg (fun h => hxl (h.2.trans HL.out.symm))] at hL
          have HLL := Lib.hid hL
          have e1 : ((x.f0.length : Int) == (pts.length : Int)) = false := beq_eq_false_iff_ne.2 (fun h => hxl (by omega))
          clear hL hxl hpe hfit
          go_wp2
          refine ⟨⟨j + 1, false, hjl, congrArg (Value.int .i64) EW.out, fun h => absurd h (by decide), HLL.out, ?hblk, ?hfp⟩, ?_⟩
          case hblk => exact blk_alloc (blk_put HP.out 0 _ rfl) _
          case hfp => exact (HBR.out.setCell (a := ⟨ab, 0, none⟩) (fun _ => rfl) _).alloc _
          rw [EW.out]
          simp only [intOf, Int.toNat_natCast]
          exact meas_lt hjl
    · have hjj : j = l.length := by omega
      subst hjj
      rw [List.drop_length, loopP] at hL
      obtain rfl : r = some b := hL.symm
      have HP := Lib.hid hP
      have HBR := Lib.hid hbr
      clear hL hP hbr
      go_wp2
      simp [bodyPost, results, Try.results21, go_sem]
      exact ⟨And.intro rfl HP.out, HBR.out⟩

end Go.Proofs.Ytdkbnbebioflaaa.Ln
