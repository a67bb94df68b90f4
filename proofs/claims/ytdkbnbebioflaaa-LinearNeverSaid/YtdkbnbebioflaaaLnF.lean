/- linear.CheckPoint, whole. -/
import Derived.Test.YtdkbnbebioflaaaLnE
namespace Go.Proofs
theorem Z1b0 {p : Prop} (h : p := by repeat (first | exact Below.refl _ _ | with_reducible assumption | refine Below.alloc ?_ (by first | exact Nat.le_refl _ | (simp; done) | (simp; omega) | omega) _ | refine Below.setCell ?_ (by first | exact Nat.le_refl _ | (simp; done) | (simp; omega) | omega) _ | refine Below.drew ?_ | refine bdrewN ?_ _)) : p := h
theorem Z1b1 {p : Prop} (h : p := by first | exact Nat.le_refl _ | (simp; done) | (simp; omega) | omega) : p := h
end Go.Proofs
namespace Go.Proofs.Ytdkbnbebioflaaa.Ln
open Go.RowKit Go.Proofs.Ytdkbnbebioflaaa.Num Go.Proofs.Ytdkbnbebioflaaa.Given Go.Proofs.Ytdkbnbebioflaaa.Lin Go.Proofs.YtdkbnbebioflaaaW.PrintWords
set_option linter.unusedVariables false
set_option linter.unusedSimpArgs false

def toZ (r : S38) : RowZ := (r.f0, r.f1)
def toQ (x : S29) : Rat := mkRat x.f0 x.f1.toNat
def rightS (x : S29) : Bool := rightPQ x.f0 x.f1
/-- linear.CheckPoint. -/
def chkP (l : List S38) (pts : List S29) : Bool := pts.all rightS && checkPoint (l.map toZ) (pts.map toQ)

theorem right_is {x : S29} (h : rightS x = true) (h0 : In64 x.f0) (h1 : In64 x.f1) : ofQ (toQ x) = x ∧ Fit (toQ x) := by
  unfold rightS rightPQ at h
  rw [Bool.and_eq_true, Bool.and_eq_true, beq_iff_eq, beq_iff_eq] at h
  obtain ⟨b1, b2, b3⟩ := h
  have e : mk x.f0 x.f1 = (x.f0, x.f1, true) := by rw [Prod.ext_iff, Prod.ext_iff]; exact ⟨b2.symm, b3.symm, b1⟩
  obtain ⟨y, hy1, hy2⟩ := right_q (mk_true e).1
  have ey : toQ x = y := by
    unfold toQ
    rw [← hy1, ← hy2, Int.toNat_natCast]
    exact Rat.mkRat_self y
  rw [ey]
  refine ⟨?_, ?_⟩
  · unfold ofQ; rw [hy1, hy2]
  · unfold Fit; rw [hy1, hy2]; exact ⟨h0, h1.2⟩
theorem pts_is : ∀ {pts : List S29}, pts.all rightS = true → (∀ x, x ∈ pts → In64 x.f0 ∧ In64 x.f1) → pts = (pts.map toQ).map ofQ ∧ ∀ y, y ∈ pts.map toQ → Fit y
  | [], _, _ => ⟨rfl, by simp⟩
  | x :: l, h, hi => by
    rw [List.all_cons, Bool.and_eq_true] at h
    obtain ⟨a, b⟩ := right_is h.1 (hi x List.mem_cons_self).1 (hi x List.mem_cons_self).2
    obtain ⟨c, d⟩ := pts_is h.2 (fun y hy => hi y (List.mem_cons_of_mem _ hy))
    refine ⟨?_, ?_⟩
    · rw [List.map_cons, List.map_cons, a, ← c]
    · intro y hy
      rw [List.map_cons] at hy
      rcases List.mem_cons.1 hy with rfl | hy
      · exact b
      · exact d y hy
theorem loopP_false (xs : List Rat) : ∀ l, loopP xs l false = some false
  | [] => rfl
  | r :: l => by rw [loopP, if_neg (fun h => absurd h.1 (by decide)), loopP_false xs l]
theorem loopP_true (xs : List Rat) : ∀ l, (loopP xs l true == some true) = checkPoint (l.map toZ) xs
  | [] => rfl
  | r :: l => by
    have ih := loopP_true xs l
    unfold checkPoint at ih ⊢
    rw [List.map_cons, List.all_cons, ← ih, loopP]
    unfold checkRow
    show _ = ((decide (r.f0.length = xs.length) && match holdF r.f0 xs (r.f1 : Rat) with | some s => decide (s ≤ 0) | none => false) && _)
    by_cases h : r.f0.length = xs.length
    · rw [if_pos ⟨rfl, h⟩, decide_eq_true h, Bool.true_and]
      cases holdF r.f0 xs (r.f1 : Rat) with
      | none => rfl
      | some s =>
        rw [Option.bind_some]
        cases hd : decide (s ≤ 0) with
        | true => simp [hd]
        | false => simp [hd, loopP_false]
    · rw [if_neg (fun k => h k.2), decide_eq_false h, Bool.false_and, Bool.false_and, loopP_false]; rfl

def outB (o : Option Bool) : Bool := match o with
  | some b => b
  | none => false
theorem chk_out {l : List S38} {pts : List S29} {b0 : Bool} (h : pts.all rightS = b0) : outB (loopP (pts.map toQ) l b0) = chkP l pts := by
  unfold chkP
  rw [h]
  cases b0 with
  | false => rw [loopP_false]; rfl
  | true =>
    rw [Bool.true_and, ← loopP_true]
    cases loopP (pts.map toQ) l true with
    | none => rfl
    | some b => cases b <;> rfl
theorem cf_point (args : Array Value) (w : World) : (callFunc 21 args).run Try.prog w = .ok (.enter 21 args) w := by kernel_rfl

set_option maxHeartbeats 8000000 in
set_option maxRecDepth 100000 in
theorem CheckPoint_any (l : List S38) (pts : List S29) (A A' : Option Addr) (c c' : Nat) (w : World) (hC : Kd.C k38 w A l.length l) (hc : l.length ≤ c) (hX : Kd.C k29 w A' pts.length pts) (hc' : pts.length ≤ c')
    (hin : ∀ r, r ∈ l → In64 r.f1 ∧ ∀ x, x ∈ r.f0 → In64 x) (hp : ∀ x, x ∈ pts → In64 x.f0 ∧ In64 x.f1) :
    Calls Try.prog 9 #[.slice A l.length c, .slice A' pts.length c'] w fun e w' => e = .returned (.bool (chkP l pts)) ∧ Below w.heap.size w w' := by
  have HA := Lib.hid (fun W (hW : Below w.heap.size w W) => anyQ (fun x => !rightS x) pts A' c' w W hX hc' hW (fun x hx W2 _ => point1_any x W2 (hp x hx).1 (hp x hx).2))
  have hany : (pts.any fun x => !rightS x) = !(pts.all rightS) := by rw [List.all_eq_not_any_not, Bool.not_not]
  rw [hany] at HA
  obtain ⟨b0, hb0⟩ : ∃ b0, pts.all rightS = b0 := ⟨_, rfl⟩
  rw [hb0] at HA
  obtain ⟨o, ho⟩ : ∃ o, loopP (pts.map toQ) l b0 = o := ⟨_, rfl⟩
  have hout := chk_out (l := l) hb0
  rw [ho] at hout
  have HO := Lib.hid hout
  have hloop := fun rb ab pb W hB h1 h2 h3 ha hra hpa => point2_any l (pts.map toQ) pts b0 A A' c c' rb ab pb w W hC hc hX hc' hB hin (by rw [List.length_map]) (fun h => pts_is (by rw [hb0]; exact h) hp) h1 h2 h3 ha hra hpa
  rw [ho] at hloop
  have HLP := Lib.hid hloop
  clear hC hX hany hloop hin hp hout hb0 ho
  rw [← HO.out]
  go_enter Try.func9, Try.ntmps9
  go_wp2_with fail
  refine (HA.out _ ?_).mono ?_
  · exact Z1b0
  rintro e w1 ⟨rfl, hb1⟩
  have hz1 := hb1.size
  simp at hz1
  have k1 := hb1.block w.heap.size (by simp; omega)
  have k2 := hb1.block (w.heap.size + 1) (by simp)
  rw [blk_alloc (blk_new w _) _] at k1
  rw [show w.heap.size + 1 = (w.alloc (.cells #[.slice A l.length c] 22)).heap.size by simp, blk_new] at k2
  have HK1 := Lib.hid k1
  have HK2 := Lib.hid k2
  have HB1 := Lib.hid (show Below w.heap.size w w1 by refine Below.trans ?_ (hb1.mono Z1b1); exact Z1b0)
  clear hb1 k1 k2
  go_wp2_with fail
  have hne : w1.heap.size ≠ (w1.alloc (.cells #[.bool b0] 4)).heap.size := by simp
  have HN := Lib.hid hne
  clear hne
  have hcall : ∀ W, Below (w1.alloc (.cells #[.bool b0] 4)).heap.size (w1.alloc (.cells #[.bool b0] 4)) W → Calls Try.prog 21 #[.pointer (some ⟨w.heap.size, 0, none⟩), .pointer (some ⟨w1.heap.size, 0, none⟩), .pointer (some ⟨w.heap.size + 1, 0, none⟩)] W fun e w' => PointEnd w1.heap.size o e w' ∧ Fp (fun k => k = w1.heap.size) W w' := by
    intro W hW
    refine HLP.out _ _ _ W (((HB1.out.alloc HB1.out.size _)).trans (hW.mono (by simp; omega))) ((hW.block _ (by simp; omega)).trans (blk_alloc HK1.out _)) ((hW.block _ (by simp)).trans (blk_new _ _)) ((hW.block _ (by simp; omega)).trans (blk_alloc ?_ _)) (by omega) (by omega) (by omega)
    have := HK2.out
    simpa using this
  have HC := Lib.hid hcall
  clear hcall
  cases o with
  | none =>
    refine (fits_no 21 _ (fun k => k = w1.heap.size) (fun _ => True) _ (by rintro k rfl; simp) (cf_point _) (fun W hW => (HC.out W hW).mono (fun e w' h => ⟨h.1, h.2, trivial⟩))).mono ?_
    rintro e w3 ⟨rfl, hF, _⟩
    have HF := Lib.hid hF
    clear hF
    go_wp2
    go_ret
    exact ⟨rfl, (HB1.out.alloc HB1.out.size _).trans (HF.out.below (by simp; omega) (by intro i hi he; omega))⟩
  | some b =>
    refine (fits_ok 21 _ (fun k => k = w1.heap.size) (fun W => W.heap[w1.heap.size]? = some (.cells #[.bool b] 4 (0, 0))) _ (by rintro k rfl; simp) (cf_point _) (fun W hW => (HC.out W hW).mono (fun e w' h => ⟨h.1.1, h.2, h.1.2⟩))).mono ?_
    rintro e w3 ⟨rfl, hF, W', hQ, hsz, hk⟩
    have q1 : w3.cell? ⟨w1.heap.size, 0, none⟩ = some (.bool b) := blk_cell ((hk _ (blk_lt hQ) HN.out).trans hQ) 0
    have HF := Lib.hid hF
    clear hF hk hQ hsz
    go_wp2
    go_ret
    exact ⟨rfl, (HB1.out.alloc HB1.out.size _).trans (HF.out.below (by simp; omega) (by intro i hi he; omega))⟩

end Go.Proofs.Ytdkbnbebioflaaa.Ln
