/- ashlarlaw11.of, checks, walked: rows of rats of the call's own. -/
import Derived.Test.YtbpjnkeilhfajaaGreatRxX
import Derived.Test.YtbpjnkeilhfajaaGreatTl
import Derived.Test.YtbpjnkeilhfajaaGreatRwS
import Derived.Test.YtbpjnkeilhfajaaGreatRxD
namespace Go.Proofs.YtbpjnkeilhfajaaGreat.Rw
open Go.RowKit Go.Proofs.YtbpjnkeilhfajaaGreat.Given Go.Proofs.YtbpjnkeilhfajaaGreatW.PrintWords Go.Proofs.YtbpjnkeilhfajaaGreatW.PrintLast Go.Proofs.YtbpjnkeilhfajaaGreat.Num Go.Proofs.YtbpjnkeilhfajaaGreat.Ln Go.Proofs.YtbpjnkeilhfajaaGreat.Lin
set_option linter.unusedVariables false
set_option linter.unusedSimpArgs false

def flatP : List S28 → List Value
  | [] => []
  | x :: l => .int .i64 x.f0 :: .int .i64 x.f1 :: flatP l
theorem flatP_len : ∀ l, (flatP l).length = l.length * 2
  | [] => rfl
  | x :: l => by rw [flatP, List.length_cons, List.length_cons, List.length_cons, flatP_len l]; omega
theorem flatP_app : ∀ l m, flatP (l ++ m) = flatP l ++ flatP m
  | [], m => rfl
  | x :: l, m => by rw [List.cons_append, flatP, flatP, flatP_app l m]; rfl
theorem flatP_drop : ∀ l j, (flatP l).drop (j * 2) = flatP (l.drop j)
  | l, 0 => rfl
  | [], j + 1 => by rw [flatP, List.drop_nil, List.drop_nil]; rfl
  | x :: l, j + 1 => by rw [flatP, show (j + 1) * 2 = j * 2 + 1 + 1 by omega, List.drop_succ_cons, List.drop_succ_cons, List.drop_succ_cons, flatP_drop l j]
theorem repsP (w : World) (base : Nat) (ok : Nat → Prop) (p : List S28) : Reps (k28.M w base ok) 2 p (flatP p) := by
  refine ⟨flatP_len p, fun j x hx => ?_⟩
  obtain ⟨hj, e⟩ := List.getElem?_eq_some_iff.1 hx
  rw [flatP_drop, List.drop_eq_getElem_cons hj, e]
  exact ⟨[.int .i64 x.f0], [.int .i64 x.f1], rfl, rfl, rfl⟩
/-- A row of rats of the call's own, in blocks of type t. -/
def RowT (t : TypeId) (w : World) (base : Nat) (v : Value) (l : List S28) : Prop := w.ownsRow base t 2 v l.length (flatP l)
theorem RowT.toR {t : TypeId} {w : World} {base : Nat} {v : Value} {p : List S28} (h : RowT t w base v p) : k28.R t w base (fun k => base ≤ k) v p := by
  refine ⟨fun k hk => ?_, flatP p, h, repsP w base _ p⟩
  obtain ⟨_, _, hg⟩ := own_blk_ty h hk
  exact hg
theorem RowT.read {t : TypeId} {w : World} {base : Nat} {v : Value} {l : List S28} (h : RowT t w base v l) : ∃ A c, v = .slice A l.length c ∧ l.length ≤ c ∧ k28.C w A l.length l := by
  obtain ⟨A, c, e, h1, h2⟩ := Kd.R_reads (RowT.toR h)
  exact ⟨A, c, e, h1, h2⟩
theorem RowT.below {t : TypeId} {w w' : World} {base : Nat} {v : Value} {l : List S28} (h : RowT t w base v l) (hb : Below w.heap.size w w') : RowT t w' base v l := pw_own_below h hb
theorem RowT.nil {t : TypeId} {w : World} {base : Nat} : RowT t w base (.slice none 0 0) [] := ⟨rfl, .inl ⟨rfl, rfl⟩⟩
theorem stepT {ops : Array Oper} {o : Oper} {a : Act} {w : World} {K : Act → World → Prop} {Q : Exit → Act → World → Prop} {E : Prop} (t st : TypeId) (hu : Tryz.prog.underlying st = some (.slice t)) (hinfo : (Tryz.prog.info? t).map (fun i => (i.zero, i.size, i.bytes)) = some (some (.agg #[.int .i64 0, .int .i64 0]), 2, 16)) (hgd : o.guard = none) (s x : Operand)
    (ho : o.op = .call { callee := .builtin .append, args := #[s, x], argTypes := #[st, st] })
    (base : Nat) (v : Value) (l : List S28) (hs : a.eval s = v) (hown : RowT t w base v l) (A : Option Addr) (c : Nat) (y : S28) (hx : a.eval x = .slice A 1 c) (hraw : Raw w A 1 2 [.int .i64 y.f0, .int .i64 y.f1]) (hb : l.length < 1000000) (hbase : base ≤ w.heap.size)
    (h : ∀ v' w', Hid (RowT t w' base v' (l ++ [y])) → Hid (Below base w w') → K (a.put o.dst v') w') :
    if Region.wanted o (yielded ops a.tmps) = true then Oper.wp Tryz.prog o a w K Q else E := by
  refine step_appR hgd s x _ ho base t (.agg #[.int .i64 0, .int .i64 0]) 2 16 hu hinfo rfl (by decide) v l.length (flatP l) hs hown A 1 c _ hx hraw (by unfold maxLen; omega) (by omega) hbase (fun v' w' h1 h2 => h v' w' (Lib.hid ?_) (Lib.hid ?_))
  · unfold RowT
    rw [List.length_append, List.length_singleton, flatP_app]
    exact h1.out
  · exact Below.grown ((Below.refl _ _).mono hbase) h2 hbase (fun k hk => by obtain ⟨_, _, hg⟩ := own_blk_ty hown hk; exact hg)
theorem infoD : (Tryz.prog.info? 107).map (fun i => (i.zero, i.size, i.bytes)) = some (some (.agg #[.int .i64 0, .int .i64 0]), 2, 16) := by kernel_rfl
theorem infoN : (Tryz.prog.info? 28).map (fun i => (i.zero, i.size, i.bytes)) = some (some (.agg #[.int .i64 0, .int .i64 0]), 2, 16) := by kernel_rfl

set_option maxHeartbeats 8000000 in
set_option maxRecDepth 100000 in
theorem of11_any (l : List S28) (A : Option Addr) (c : Nat) (w : World) (hC : Kd.C k28 w A l.length l) (hn : l.length ≤ 100000) :
    Calls Tryz.prog 41 #[.slice A l.length c] w fun e w' => ∃ v, e = .returned v ∧ RowT 107 w' w.heap.size v l ∧ Below w.heap.size w w' := by
  have HC := Lib.hid hC
  have HN := Lib.hid hn
  clear hC hn
  go_enter Tryz.func41, Tryz.ntmps41
  go_wp2
  go_loopw [3, 4] (fun v3 v4 wr => ∃ i : Nat, i ≤ l.length ∧ v4 = .int .i64 i ∧ Hid (RowT 107 wr w.heap.size v3 (l.take i)) ∧ Hid (Below w.heap.size w wr)) (fun _ v4 _ => l.length - (intOf v4).toNat)
  case atStart => exact ⟨0, Nat.zero_le _, rfl, Lib.hid (by rw [List.take_zero]; exact RowT.nil), Lib.hid (Below.refl _ _)⟩
  case round =>
    obtain ⟨i, hi, rfl, HO, HB⟩ := hrel
    by_cases hil : i < l.length
    · have e1 : (i < l.length) = True := eq_true hil
      obtain ⟨ad, rfl, z0, z1⟩ := el_Q HC.out hil
      have hT : l.take (i + 1) = l.take i ++ [l[i]] := by rw [List.take_add_one, List.getElem?_eq_getElem hil]; rfl
      obtain ⟨x, hx⟩ : ∃ x, l[i] = x := ⟨_, rfl⟩
      rw [hx] at z0 z1 hT
      have HCe := Lib.hid (show Cells [(ad.add (i * 2), .int .i64 x.f0), (⟨(ad.add (i * 2)).block, (ad.add (i * 2)).off + 1, none⟩, .int .i64 x.f1)] w from ⟨z0, z1, trivial⟩)
      replace z0 := kcell HB.out z0
      replace z1 := kcell HB.out z1
      have hlen : (l.take i).length < 1000000 := by rw [List.length_take]; have := HN.out; omega
      have HT := Lib.hid hT
      have HL := Lib.hid hlen
      have HI := Lib.hid (And.intro hi hil)
      have EW := Lib.hid (wrapj (show i + 1 < 9223372036854775808 by have := HN.out; omega))
      clear hi hil hT hx hlen
      have hwb : w.heap.size ≤ wr.heap.size := HB.out.size
      have HD0 := Lib.hid (show Below wr.heap.size wr wr.drew from (Below.refl _ _).drew)
      clear z0 z1
      go_wp2_with fail
      refine wp_region_L 14 (Hd _ wr w.heap.size) (by kernel_rfl) (⟨hwb, HCe.out.keep HB.out.drew, HD0.out.mono hwb⟩) (fun hHeld => ?_)
      refine tl0 ?_ (by decide +kernel) (by rfl) (fun _ _ _ => id) ?_ (by assumption) ?_; rotate_left 1; (focus (intro w_ hSw; have hSw := hSw.cells; simp only [Cells] at hSw; go_simp; all_goals (with_reducible rfl); done)); focus try simp only [Act.put, List.setIfInBounds_toArray, List.set_cons_zero, List.set_cons_succ]
      refine tl1 ?_ (by decide +kernel) (by rfl) (fun _ _ _ => id) ?_ (by assumption) ?_; rotate_left 1; (focus (intro w_ hSw; have hSw := hSw.cells; simp only [Cells] at hSw; go_simp; all_goals (with_reducible rfl); done)); focus try simp only [Act.put, List.setIfInBounds_toArray, List.set_cons_zero, List.set_cons_succ]
      refine tl2 ?_ (by decide +kernel) (by rfl) (fun _ _ _ => id) ?_ (by assumption) ?_; rotate_left 1; (focus (intro w_ hSw; have hSw := hSw.cells; simp only [Cells] at hSw; go_simp; all_goals (with_reducible rfl); done)); focus try simp only [Act.put, List.setIfInBounds_toArray, List.set_cons_zero, List.set_cons_succ]
      refine tl3 ?_ (by decide +kernel) (by rfl) (fun _ _ _ => id) ?_ (by assumption) ?_; rotate_left 1; (focus (intro w_ hSw; have hSw := hSw.cells; simp only [Cells] at hSw; go_simp; all_goals (with_reducible rfl); done)); focus try simp only [Act.put, List.setIfInBounds_toArray, List.set_cons_zero, List.set_cons_succ]
      refine tl4 ?_ (by decide +kernel) (by rfl) (fun _ _ _ => id) ?_ (by assumption) ?_; rotate_left 1; (focus (intro w_ hSw; have hSw := hSw.cells; simp only [Cells] at hSw; go_simp; all_goals (with_reducible rfl); done)); focus try simp only [Act.put, List.setIfInBounds_toArray, List.set_cons_zero, List.set_cons_succ]
      refine tl5 ?_ (by decide +kernel) (by rfl) (fun _ _ _ => id) ?_ (by assumption) ?_; rotate_left 1; (focus (intro w_ hSw; have hSw := hSw.cells; simp only [Cells] at hSw; go_simp; all_goals (with_reducible rfl); done)); focus try simp only [Act.put, List.setIfInBounds_toArray, List.set_cons_zero, List.set_cons_succ]
      refine tl6 ?_ (by decide +kernel) (by rfl) (fun _ _ _ => id) ?_ (by assumption) ?_; rotate_left 1; (focus (intro w_ hSw; have hSw := hSw.cells; simp only [Cells] at hSw; go_simp; all_goals (with_reducible rfl); done)); focus try simp only [Act.put, List.setIfInBounds_toArray, List.set_cons_zero, List.set_cons_succ]
      refine tl7 ?_ (by decide +kernel) (by rfl) (fun _ _ _ => id) ?_ (by assumption) ?_; rotate_left 1; (focus (intro w_ hSw; have hSw := hSw.cells; simp only [Cells] at hSw; go_simp; all_goals (with_reducible rfl); done)); focus try simp only [Act.put, List.setIfInBounds_toArray, List.set_cons_zero, List.set_cons_succ]
      refine tl8 ?_ (by decide +kernel) (by rfl) (fun _ _ _ => id) ?_ (by assumption) ?_; rotate_left 1; (focus (intro w_ hSw; have hSw := hSw.cells; simp only [Cells] at hSw; go_simp; all_goals (with_reducible rfl); done)); focus try simp only [Act.put, List.setIfInBounds_toArray, List.set_cons_zero, List.set_cons_succ]
      refine tl9 ?_ (by decide +kernel) (by rfl) (fun _ _ _ => id) ?_ (by assumption) ?_; rotate_left 1; (focus (intro w_ hSw; have hSw := hSw.cells; simp only [Cells] at hSw; go_simp; all_goals (with_reducible rfl); done)); focus try simp only [Act.put, List.setIfInBounds_toArray, List.set_cons_zero, List.set_cons_succ]
      refine tl10 ?_ (by decide +kernel) (by rfl) (fun _ _ _ => id) ?_ (by assumption) ?_; rotate_left 1; (focus (intro w_ hSw; have hSw := hSw.cells; simp only [Cells] at hSw; go_simp; all_goals (with_reducible rfl); done)); focus try simp only [Act.put, List.setIfInBounds_toArray, List.set_cons_zero, List.set_cons_succ]
      refine tl11 ?_ (by decide +kernel) (by rfl) (fun _ _ _ => id) ?_ (by assumption) ?_; rotate_left 1; (focus (intro w_ hSw; have hSw := hSw.cells; simp only [Cells] at hSw; go_simp; all_goals (with_reducible rfl); done)); focus try simp only [Act.put, List.setIfInBounds_toArray, List.set_cons_zero, List.set_cons_succ]
      refine wpAnyL_ready (rs := [12]) (by kernel_rfl) (by simp) (al12 (fun K hK => ?_) (AllReadyL.nil))
      focus (refine sl_newh (.cells #[.int .i64 x.f0, .int .i64 x.f1] 107) 1 (by kernel_rfl) (by intro w_; go_simp; done) (fun g2_ w2 hg2_ hb2 HP2 => ?_); have HD1 := Lib.hid (HD0.out.trans hb2))
      refine hK.out _ _ (fun _ => ?_) (fun hHeld => ?_)
      · exact hHeld.keep hb2
      focus (have hHeld := hHeld (by decide); clear hK K; try simp only [Act.put, List.setIfInBounds_toArray, List.set_cons_zero, List.set_cons_succ])
      refine wpAnyL_ready (rs := [13]) (by kernel_rfl) (by simp) (al13 (fun K hK => ?_) (AllReadyL.nil))
      focus (refine stepT 107 55 Tryz.underlying55 infoD rfl (.tmp 11) (.tmp 23) rfl w.heap.size _ _ rfl (HO.out.below HD1.out) (some ⟨g2_, 0, none⟩) 1 x rfl (raw_lit HP2 rfl rfl) HL.out (Nat.le_trans hwb HD1.out.size) ?_; intro v5 w5 HO5 HB5; have HB9 := Lib.hid (HB.out.trans ((HD1.out.mono hwb).trans HB5.out)))
      refine hK.out _ _ (fun _ => ?_) (fun hHeld => ?_)
      · exact ⟨hwb, HCe.out.keep HB9.out, (HD1.out.mono hwb).trans HB5.out⟩
      focus (have hHeld := hHeld (by decide); clear hK K; try simp only [Act.put, List.setIfInBounds_toArray, List.set_cons_zero, List.set_cons_succ])
      refine wpAnyL_ready (rs := [14]) (by kernel_rfl) (by simp) (al14 (fun K hK => ?_) (AllReadyL.nil))
      focus go_simp
      refine hK.out _ _ (fun h => absurd rfl h) (fun _ => ?_)
      focus (clear hK K; try simp only [Act.put, List.setIfInBounds_toArray, List.set_cons_zero, List.set_cons_succ])
      refine wpAnyL_done (by kernel_rfl) ?_ _; rotate_left 1
      go_wp2
      refine ⟨⟨i + 1, HI.out.2, congrArg (Value.int .i64) EW.out, Lib.hid (by rw [HT.out]; exact HO5.out), HB9⟩, ?_⟩
      rw [EW.out]
      simp only [intOf, Int.toNat_natCast]
      exact meas_lt HI.out.2
    · have hi' : i = l.length := by omega
      subst i
      have e1 : (l.length < l.length) = False := eq_false (Nat.lt_irrefl _)
      rw [List.take_length] at HO
      clear hi hil
      go_wp2
      go_ret
      exact ⟨_, rfl, HO.out, HB.out⟩

set_option maxHeartbeats 8000000 in
theorem checks11_any (l : List S40) (pts : List S28) (A A' : Option Addr) (c c' : Nat) (w : World) (hC : Kd.C k40 w A l.length l) (hX : Kd.C k28 w A' pts.length pts) (hin : ∀ r, r ∈ l → RowIn r) (hp : ∀ x, x ∈ pts → In64 x.f0 ∧ In64 x.f1) (hn : pts.length ≤ 100000) :
    Calls Tryz.prog 16 #[.slice A l.length c, .slice A' pts.length c'] w fun e w' => e = .returned (.bool (chkP l pts)) ∧ Below w.heap.size w w' := by
  have HC := Lib.hid hC
  have HX := Lib.hid hX
  have HIN := Lib.hid hin
  have HP := Lib.hid hp
  have HN := Lib.hid hn
  clear hC hX hin hp hn
  go_enter Tryz.func16, Tryz.ntmps16
  go_wp2_with fail
  refine (of11_any pts A' c' _ HX.out HN.out).mono ?_
  rintro e w2 ⟨v, rfl, hO, hb2⟩
  obtain ⟨A2, c2, rfl, hc2, hC2⟩ := hO.read
  have HC2 := Lib.hid hC2
  have HB := Lib.hid hb2
  clear hO hc2 hC2 hb2
  go_wp2_with fail
  refine (point11_any l pts A A2 c c2 w2 (Kd.C_below HC.out HB.out) HC2.out HIN.out HP.out).mono ?_
  rintro e w3 ⟨rfl, hb3⟩
  have HB3 := Lib.hid (HB.out.trans (hb3.mono HB.out.size))
  clear hb3
  go_wp2
  go_ret
  exact ⟨rfl, HB3.out⟩
end Go.Proofs.YtbpjnkeilhfajaaGreat.Rw
