import Derived.Test.YtbpjnkeilhfajaaGreatTl
import Derived.Test.YtbpjnkeilhfajaaGreatLnX
import Derived.Test.YtbpjnkeilhfajaaGreatLnZ
section
/- linear.Solve's closure. -/
namespace Go.Proofs
theorem Zp20 {p q : Prop} (hq : q) (h : p = q := by first | (simp only [Act.put, List.setIfInBounds_toArray, List.set_cons_zero, List.set_cons_succ]; done) | (simp only [Act.put, List.setIfInBounds_toArray, List.set_cons_zero, List.set_cons_succ]; rfl) | rfl) : p := Eq.mpr h hq
theorem Z200 {p : Prop} (h : p := by (intro w_ hSw; simp only [Cells] at hSw; go_simp; all_goals (with_reducible rfl); done)) : p := h
end Go.Proofs
namespace Go.Proofs.YtbpjnkeilhfajaaGreat.Ln
open Go.RowKit Go.Proofs.YtbpjnkeilhfajaaGreat.Num Go.Proofs.YtbpjnkeilhfajaaGreat.Given Go.Proofs.YtbpjnkeilhfajaaGreat.Lin Go.Proofs.YtbpjnkeilhfajaaGreatW.PrintWords
set_option linter.unusedVariables false
set_option linter.unusedSimpArgs false
def fuelOf : Option Obj → Nat
 | some (.cells #[.int _ n] _ _) => n.toNat
 | _ => 0
theorem made_wf {l : List S40} {vars : Nat} {t : Tab} (hin : ∀ r, r ∈ l → RowIn r) (hv : vars ≤ 64) (hl : l.length ≤ 256) (hlen : ∀ r, r ∈ l → r.f0.length = vars) (h : made (l.map toZ) vars = some t) : WfT vars t := by
 unfold made at h
 obtain ⟨lim, h1, h2⟩ := bind_some' h
 cases h2
 have hlim : ∀ {q : List RowZ} {m : List Rat}, limF q = some m → m.length = q.length ∧ ∀ x, x ∈ m → Fit x := by
  intro q
  induction q with
  | nil => intro m hm; rw [limF] at hm; cases hm; exact ⟨rfl, fun x hx => by cases hx⟩
  | cons r q ih =>
   intro m hm
   rw [limF] at hm
   obtain ⟨x, hx, h3⟩ := bind_some' hm
   obtain ⟨m', hm', h4⟩ := bind_some' h3
   cases h4
   obtain ⟨e1, e2⟩ := ih hm'
   refine ⟨by simp [e1], fun y hy => ?_⟩
   rcases List.mem_cons.1 hy with rfl | hy
   ·obtain ⟨e, hi⟩ := okI_some hx
    subst e
    exact int_fit hi
   ·exact e2 y hy
 obtain ⟨l1, f1⟩ := hlim h1
 have hlz : (l.map toZ).length = l.length := List.length_map _
 refine ⟨by simp [l1], by simp [l1], by simp [l1], fun j hj => ?_, fun j hj => ?_, fun j => fit_rdQ (fun x hx => ?_) j, fit_rdQ f1, fun i j => fit_rdR (fun x hx y hy => ?_) i j, by simp; omega⟩
 ·simp only [List.length_map] at hj
  have hr := hlen _ (List.getElem_mem hj)
  rw [← rdR_get (by simpa using hj)]
  simp [toZ, hr]
 ·simp only [List.length_map, List.length_range] at hj
  rw [← rdN_get (by simpa using hj)]
  simp
  omega
 ·rw [List.mem_replicate] at hx
  rw [hx.2]; exact fit0
 ·obtain ⟨r, hr, rfl⟩ := List.mem_map.1 hx
  obtain ⟨q, hq, rfl⟩ := List.mem_map.1 hr
  rcases List.mem_append.1 hy with hy | hy
  ·obtain ⟨c, hc, rfl⟩ := List.mem_map.1 hy
   exact int_fit ((hin q hq).2 c hc)
  ·rw [List.mem_replicate] at hy
   rw [hy.2]; exact fit0
theorem wrong_in {vars : Nat} {t : Tab} : ∀ (d i : Nat) (a : Option Nat), i + d = t.basic.length → (∀ b, a = some b → b < t.basic.length ∧ vars ≤ rdN t.basic b) → ∀ b, wrongF vars t d i a = some b → b < t.basic.length ∧ vars ≤ rdN t.basic b
 | 0, i, a, hi, h, b, hb => by rw [wrongF] at hb; exact h b hb
 | d + 1, i, a, hi, h, b, hb => by
  rw [wrongF] at hb
  refine wrong_in d (i + 1) _ (by omega) (fun b' hb' => ?_) b hb
  split at hb'
  ·rename_i hc
   cases hb'
   exact ⟨by omega, hc.1⟩
  ·exact h b' hb'
theorem helps_in {vars : Nat} {t : Tab} {row : List Rat} : ∀ (d v : Nat), v + d = row.length → ∀ u, helpsF vars t row d v = some u → u < row.length ∧ rdQ row u ≠ 0
 | 0, v, hv, u, hu => by rw [helpsF] at hu; cases hu
 | d + 1, v, hv, u, hu => by
  rw [helpsF] at hu
  split at hu
  ·rename_i hg
   cases hu
   refine ⟨by omega, ?_⟩
   unfold goodQ at hg
   rcases hg with h | ⟨h, _⟩
   ·grind
   ·grind
  ·exact helps_in d (v + 1) (by omega) u hu
def SEnd (base ab pb wb : Nat) (o : Option (Int × List Rat × List Int)) (e : Ending) (w' : World) : Prop := match o with
 | some (a, p, ws) => e = .returned (.tuple #[]) ∧ w'.heap[ab]? = some (.cells #[.int .i64 a] 3 (0, 0)) ∧ ∃ vp vw, w'.heap[pb]? = some (.cells #[vp] 26 (0, 0)) ∧ w'.heap[wb]? = some (.cells #[vw] 23 (0, 0)) ∧ RowQ w' base vp p ∧ RowI w' base vw ws
 | none => e = .panicked LargeL ∧ w'.heap[ab]? = some (.cells #[.int .i64 0] 3 (0, 0)) ∧ w'.heap[pb]? = some (.cells #[.slice none 0 0] 26 (0, 0)) ∧ w'.heap[wb]? = some (.cells #[.slice none 0 0] 23 (0, 0))
theorem lt_of_fp {S : Nat → Prop} {w w1 : World} {k : Nat} (h : k < w.heap.size) (hf : Fp S w w1) : k < w1.heap.size := Nat.lt_of_lt_of_le h hf.size
structure Bxs (w : World) (rb vx ab pb wb fb : Nat) (vars fuel : Int) (rows : Value) : Prop where
 kr : w.heap[rb]? = some (.cells #[rows] 22 (0, 0))
 kv : w.heap[vx]? = some (.cells #[.int .i64 vars] 3 (0, 0))
 ka : w.heap[ab]? = some (.cells #[.int .i64 0] 3 (0, 0))
 kp : w.heap[pb]? = some (.cells #[.slice none 0 0] 26 (0, 0))
 kw : w.heap[wb]? = some (.cells #[.slice none 0 0] 23 (0, 0))
 kf : w.heap[fb]? = some (.cells #[.int .i64 fuel] 3 (0, 0))
theorem Bxs.below {w w1 : World} {rb vx ab pb wb fb base : Nat} {vars fuel : Int} {rows : Value} (h : Bxs w rb vx ab pb wb fb vars fuel rows) (hb : Below base w w1) (h1 : rb < base) (h2 : vx < base) (h3 : ab < base) (h4 : pb < base) (h5 : wb < base) (h6 : fb < base) : Bxs w1 rb vx ab pb wb fb vars fuel rows :=
 ⟨(hb.block _ h1).trans h.kr, (hb.block _ h2).trans h.kv, (hb.block _ h3).trans h.ka, (hb.block _ h4).trans h.kp, (hb.block _ h5).trans h.kw, (hb.block _ h6).trans h.kf⟩
theorem Bxs.setF {w : World} {rb vx ab pb wb fb : Nat} {vars fuel : Int} {rows : Value} (h : Bxs w rb vx ab pb wb fb vars fuel rows) (hne : fb ≠ rb ∧ fb ≠ vx ∧ fb ≠ ab ∧ fb ≠ pb ∧ fb ≠ wb ∧ ab ≠ pb ∧ ab ≠ wb ∧ pb ≠ wb ∧ ab ≠ vx) (f2 : Int) : Bxs (w.setCell ⟨fb, 0, none⟩ (.int .i64 f2)) rb vx ab pb wb fb vars f2 rows :=
 ⟨blk_far h.kr (p := ⟨fb, 0, none⟩) (fun e => hne.1 e.symm) _, blk_far h.kv (p := ⟨fb, 0, none⟩) (fun e => hne.2.1 e.symm) _, blk_far h.ka (p := ⟨fb, 0, none⟩) (fun e => hne.2.2.1 e.symm) _, blk_far h.kp (p := ⟨fb, 0, none⟩) (fun e => hne.2.2.2.1 e.symm) _, blk_far h.kw (p := ⟨fb, 0, none⟩) (fun e => hne.2.2.2.2.1 e.symm) _, blk_put h.kf 0 _ rfl⟩
theorem TabAt.farF {w : World} {base tb vars fb i : Nat} {t : Tab} {vb vr vv vl : Value} {rs : List Value} (h : TabAt w base tb vars t vb vr vv vl rs) (htb : tb ≠ fb) (hfb : fb < base) (u : Value) : TabAt (w.setCell ⟨fb, i, none⟩ u) base tb vars t vb vr vv vl rs := by
 have k : ∀ {e : TypeId} {size n : Nat} {v : Value} {xs : List Value}, w.ownsRow base e size v n xs → (w.setCell ⟨fb, i, none⟩ u).ownsRow base e size v n xs := fun ho => own_far ho (fun e => by obtain ⟨_, _, hg⟩ := own_blk_ty ho e; omega) u
 exact ⟨blk_far h.box (p := ⟨fb, i, none⟩) htb u, k h.basic, k h.rows, h.len, fun j hj => k (h.row j hj), k h.value, k h.limits, h.apart⟩
set_option maxHeartbeats 64000000 in
set_option maxRecDepth 100000 in
theorem solve1_any (l : List S40) (A : Option Addr) (c vars : Nat) (fuel : Int) (w0 w : World) (rb vx ab pb wb fb : Nat) (hC : Kd.C k40 w0 A l.length l) (hc : l.length ≤ c) (hB0 : Below w0.heap.size w0 w) (hin : ∀ r, r ∈ l → RowIn r) (hv : vars ≤ 64) (hl : l.length ≤ 256) (hlen : ∀ r, r ∈ l → r.f0.length = vars)
  (hf64 : In64 fuel) (hX : Bxs w rb vx ab pb wb fb vars fuel (.slice A l.length c)) (hne : fb ≠ rb ∧ fb ≠ vx ∧ fb ≠ ab ∧ fb ≠ pb ∧ fb ≠ wb ∧ ab ≠ pb ∧ ab ≠ wb ∧ pb ≠ wb ∧ ab ≠ vx) (h0 : w0.heap.size ≤ fb) :
  Calls Tryz.prog 52 #[.pointer (some ⟨rb, 0, none⟩), .pointer (some ⟨vx, 0, none⟩), .pointer (some ⟨ab, 0, none⟩), .pointer (some ⟨pb, 0, none⟩), .pointer (some ⟨wb, 0, none⟩), .pointer (some ⟨fb, 0, none⟩)] w fun e w' => SEnd w.heap.size ab pb wb ((made (l.map toZ) vars).bind (loop vars fuel.toNat)) e w' ∧ Fp (fun k => k = ab ∨ k = pb ∨ k = wb ∨ k = fb) w w' := by
 obtain ⟨res, hres⟩ : ∃ res, (made (l.map toZ) vars).bind (loop vars fuel.toNat) = res := ⟨_, rfl⟩
 rw [hres]
 have b1 := blk_lt hX.kr
 have b2 := blk_lt hX.kv
 have b3 := blk_lt hX.ka
 have b4 := blk_lt hX.kp
 have b5 := blk_lt hX.kw
 have b6 := blk_lt hX.kf
 have HLT := Lib.hid (And.intro b1 (And.intro b2 (And.intro b3 (And.intro b4 (And.intro b5 b6)))))
 have HM := Lib.hid (made_any l A c vars w (Kd.C_below hC hB0) hc hin hv hl hlen)
 have HWF := Lib.hid (fun t => made_wf (t := t) hin hv hl hlen)
 have HX := Lib.hid hX
 have HRES := Lib.hid hres
 have HNE := Lib.hid hne
 have HV := Lib.hid hv
 have HF64 := Lib.hid hf64
 have x0 : w.cell? ⟨rb, 0, none⟩ = some (.slice A l.length c) := blk_cell hX.kr 0
 have x1 : w.cell? ⟨vx, 0, none⟩ = some (.int .i64 vars) := blk_cell hX.kv 0
 clear hC hin hlen hX hres hv hl hf64 b1 b2 b3 b4 b5 b6 hne hc
 go_enter Tryz.func52, Tryz.ntmps52
 go_wp2_with fail
 refine HM.out.mono ?_
 rintro e w1 ⟨hM, hb1⟩
 have HX1 := Lib.hid (HX.out.below hb1 HLT.out.1 HLT.out.2.1 HLT.out.2.2.1 HLT.out.2.2.2.1 HLT.out.2.2.2.2.1 HLT.out.2.2.2.2.2)
 have HB1 := Lib.hid hb1
 clear x0 x1 HM hb1
 cases hm : made (l.map toZ) vars with
 | none =>
  rw [hm] at hM
  have hr := HRES.out
  rw [hm, Option.bind_none] at hr
  subst hr
  obtain rfl : e = .panicked LargeL := hM
  exact ⟨rfl, ⟨rfl, HX1.out.ka, HX1.out.kp, HX1.out.kw⟩, Fp.of_below HB1.out⟩
 | some t0 =>
  rw [hm] at hM
  have hr := HRES.out
  rw [hm, Option.bind_some] at hr
  obtain ⟨tb, vb0, vr0, vv, vl, rs0, rfl, hT⟩ := hM
  have hW := HWF.out t0 hm
  have HT0 := Lib.hid hT
  have HW0 := Lib.hid hW
  have HR := Lib.hid hr
  clear hm hr hT hW HRES
  go_wp2
  go_loopw [7] (fun _ wz => ∃ (t : Tab) (fu : Int) (vb vr : Value) (rs : List Value), In64 fu ∧ loop vars fu.toNat t = res ∧ WfT vars t ∧ TabAt wz w.heap.size tb vars t vb vr vv vl rs ∧ Bxs wz rb vx ab pb wb fb vars fu (.slice A l.length c) ∧ Fp (fun k => k = fb) w wz) (fun _ wz => fuelOf (wz.heap[fb]?))
  case atStart => exact ⟨t0, fuel, _, _, _, HF64.out, HR.out, HW0.out, HT0.out, HX1.out, Fp.of_below HB1.out⟩
  case round =>
   obtain ⟨t, fu, vb, vr, rs, hfu, hL, hW, hT, hX, hF⟩ := hrel
   have HWr := Lib.hid (wrong_any wr w.heap.size tb vars t vb vr vv vl rs hT hW)
   have HT := Lib.hid hT
   have HX := Lib.hid hX
   have HXr := Lib.hid hX
   have HF := Lib.hid hF
   have HW := Lib.hid hW
   have HL := Lib.hid hL
   have HFU := Lib.hid hfu
   clear hT hX hF hW hL hfu
   have hwi : ∀ b, wrong vars t = some b → b < t.basic.length ∧ vars ≤ rdN t.basic b := fun b hb => wrong_in t.basic.length 0 none (by omega) (fun b hb => by cases hb) b hb
   rcases hw : wrong vars t with _ | a
   ·rw [hw] at HWr
    have hl := HL.out
    have hl2 : res = some (1, t.value.take vars, []) := by
     rw [← hl]
     cases hfu' : fu.toNat <;> rw [loop, hw]
    subst hl2
    clear hl hwi hw
    go_wp2_with fail
    refine HWr.out.mono ?_
    rintro e w2 ⟨rfl, hb2⟩
    have hT2 := HT.out.below hb2
    have hF2 : Fp (fun k => k = fb) w w2 := HF.out.tr (Fp.of_below hb2)
    have hX2 := HX.out.below hb2 (lt_of_fp HLT.out.1 HF.out) (lt_of_fp HLT.out.2.1 HF.out) (lt_of_fp HLT.out.2.2.1 HF.out) (lt_of_fp HLT.out.2.2.2.1 HF.out) (lt_of_fp HLT.out.2.2.2.2.1 HF.out) (lt_of_fp HLT.out.2.2.2.2.2 HF.out)
    have HT := Lib.hid hT2
    have HF := Lib.hid hF2
    have HX := Lib.hid hX2
    have ea : (atI none < 0) = True := eq_true (by decide)
    clear hb2 hT2 hF2 hX2 HWr
    go_wp2_with fail
    have hvl := HW.out.vl
    have HVL := Lib.hid hvl
    have hclone : ∃ A3 c3, vv = .slice A3 t.value.length c3 ∧ vars ≤ c3 ∧ (A3 = none → c3 = 0) ∧ (A3 = none → vars = 0) ∧ Calls Tryz.prog 55 #[.slice A3 vars c3] w2.drew fun e w' => ∃ v', e = .returned v' ∧ RowQ w' w2.heap.size v' (t.value.take vars) ∧ Below w2.drew.heap.size w2.drew w' := by
     have hval := HT.out.value
     obtain ⟨_, hv⟩ := id hval
     rcases hv with ⟨h1, h2⟩ | ⟨g, cap, cur, h1, _, _, h3, _⟩
     ·have hv0 : vars = 0 := by omega
      refine ⟨none, 0, by rw [h1, h2], by omega, fun _ => rfl, fun _ => hv0, ?_⟩
      rw [hv0]
      refine (clone_nil _).mono ?_
      rintro e w' ⟨rfl, rfl⟩
      exact ⟨_, rfl, ⟨rfl, .inl ⟨rfl, rfl⟩⟩, Below.refl _ _⟩
     ·have hlt : (t.value.take vars).length = vars := by rw [List.length_take]; omega
      rw [h1] at hval
      have hcl := clone_any (t.value.take vars) g 0 cap w2.drew (by rw [hlt]; have := HV.out; omega) (fun j u hj => rowQ_cells hval j u (by
       have e : flatQ t.value = flatQ (t.value.take vars) ++ flatQ (t.value.drop vars) := by rw [← flatQ_app, List.take_append_drop]
       rw [e, List.getElem?_append_left (List.getElem?_eq_some_iff.1 hj).1]
       exact hj))
      rw [hlt] at hcl
      exact ⟨some ⟨g, 0, none⟩, cap, h1, (by omega), (fun h => (by cases h)), (fun h => (by cases h)), hcl⟩
    obtain ⟨A3, c3, rfl, hvc, hA3, hA4, hcl⟩ := hclone
    have HCL := Lib.hid hcl
    have HVT := Lib.hid (show (t.value.take vars).length = vars by rw [List.length_take]; have := HVL.out; omega)
    have htab : tb ≠ ab := blk_ne HT.out.box HX.out.ka (by decide)
    have hvab : vx ≠ ab := fun e => HNE.out.2.2.2.2.2.2.2.2 e.symm
    have hapb : ab ≠ pb := HNE.out.2.2.2.2.2.1
    have HC3 := Lib.hid (show Cells [(⟨tb, 3, none⟩, .slice A3 t.value.length c3), (⟨vx, 0, none⟩, .int .i64 vars)] w2 from ⟨blk_cell HT.out.box 3, blk_cell HX.out.kv 0, trivial⟩)
    have HNN := Lib.hid (And.intro htab (And.intro hvab hapb))
    have HAB := Lib.hid (blk_lt HX.out.ka)
    clear hcl hvl htab hvab hapb
    refine wp_region_L 8 (Cells _) (by kernel_rfl) (HC3.out.keep (Below.refl _ _).drew) (fun hHeld => ?_)
    refine tl0 ?_ (by decide +kernel) (by rfl) (fun _ _ _ => id) ?_ (by assumption) ?_; rotate_left 1; (focus exact Z200); focus try simp only [Act.put, List.setIfInBounds_toArray, List.set_cons_zero, List.set_cons_succ]
    refine tl1 ?_ (by decide +kernel) (by rfl) (fun _ _ _ => id) ?_ (by assumption) ?_; rotate_left 1; (focus exact Z200); focus try simp only [Act.put, List.setIfInBounds_toArray, List.set_cons_zero, List.set_cons_succ]
    refine tl2 ?_ (by decide +kernel) (by rfl) (fun _ _ _ => id) ?_ (by assumption) ?_; rotate_left 1; (focus exact Z200); focus try simp only [Act.put, List.setIfInBounds_toArray, List.set_cons_zero, List.set_cons_succ]
    refine tl3 ?_ (by decide +kernel) (by rfl) (fun _ _ _ => id) ?_ (by assumption) ?_; rotate_left 1; (focus exact Z200); focus try simp only [Act.put, List.setIfInBounds_toArray, List.set_cons_zero, List.set_cons_succ]
    refine tl4 ?_ (by decide +kernel) (by rfl) (fun _ _ _ => id) ?_ (by assumption) ?_; rotate_left 1; (focus exact Z200); focus try simp only [Act.put, List.setIfInBounds_toArray, List.set_cons_zero, List.set_cons_succ]
    refine tl5 ?_ (by decide +kernel) (by rfl) (fun _ _ _ => id) ?_ (by assumption) ?_; rotate_left 1; (focus exact Z200); focus try simp only [Act.put, List.setIfInBounds_toArray, List.set_cons_zero, List.set_cons_succ]
    refine wpAnyL_ready (rs := [6]) (by kernel_rfl) (by simp) (al6 (fun K hK => ?_) (AllReadyL.nil))
    focus go_simp
    focus (refine HCL.out.mono ?_; rintro e w3 ⟨vp, rfl, hR, hb3⟩; obtain ⟨A5, c5, rfl, -⟩ := row_open hR; have KA := Lib.hid (show w3.heap[ab]? = _ from blk_below (blk_drew HX.out.ka) hb3); have KP := Lib.hid (show w3.heap[pb]? = _ from blk_below (blk_drew HX.out.kp) hb3); have KW := Lib.hid (show w3.heap[wb]? = _ from blk_below (blk_drew HX.out.kw) hb3); rw [HVT.out])
    focus try simp only []
    refine hK.out _ _ (fun _ => ?_) (fun hHeld => ?_)
    ·exact Cells.keep hb3 hHeld
    focus (have hHeld := hHeld (by decide); clear hK K; refine Zp20 ?_)
    refine wpAnyL_ready (rs := [7]) (by kernel_rfl) (by simp) (al7 (fun K hK => ?_) (AllReadyL.nil))
    focus ((have s0 : w3.cell? ⟨ab, 0, none⟩ = some (.int .i64 0) := blk_cell KA.out 0; have sf0 : w3.frozen? ⟨ab, 0, none⟩ = false := blk_frozen KA.out 0; go_simp))
    refine hK.out _ _ (fun _ => ?_) (fun hHeld => ?_)
    ·exact ⟨by rw [World.cell?_of_block (Below.heap_setCell w3 ⟨ab, 0, none⟩ _ tb HNN.out.1)]; exact hHeld.1, by rw [World.cell?_of_block (Below.heap_setCell w3 ⟨ab, 0, none⟩ _ vx HNN.out.2.1)]; exact hHeld.2.1, trivial⟩
    focus (have hHeld := hHeld (by decide); clear hK K; refine Zp20 ?_)
    refine wpAnyL_ready (rs := [8]) (by kernel_rfl) (by simp) (al8 (fun K hK => ?_) (AllReadyL.nil))
    focus ((have s1 : (w3.setCell ⟨ab, 0, none⟩ (.int .i64 1)).cell? ⟨pb, 0, none⟩ = some (.slice none 0 0) := blk_cell (blk_far KP.out (p := ⟨ab, 0, none⟩) (fun e => HNN.out.2.2 e.symm) _) 0; have sf1 : (w3.setCell ⟨ab, 0, none⟩ (.int .i64 1)).frozen? ⟨pb, 0, none⟩ = false := blk_frozen (blk_far KP.out (p := ⟨ab, 0, none⟩) (fun e => HNN.out.2.2 e.symm) _) 0; go_simp))
    refine hK.out _ _ (fun h => absurd rfl h) (fun _ => ?_)
    focus (clear hK K; refine Zp20 ?_)
    refine wpAnyL_done (by kernel_rfl) ?_ _; rotate_left 1
    have HS := Lib.hid (show SEnd w.heap.size ab pb wb (some (1, t.value.take vars, [])) (.returned (.tuple #[])) ((w3.setCell ⟨ab, 0, none⟩ (.int .i64 1)).setCell ⟨pb, 0, none⟩ (.slice A5 vars c5)) from by
     have h1 := HNN.out.2.2
     have h2 := HNE.out.2.2.2.2.2.2.1
     have h3 := HNE.out.2.2.2.2.2.2.2.1
     have hle := HF.out.size
     have hl := HLT.out
     rw [HVT.out] at hR
     refine ⟨rfl, blk_far (blk_put KA.out 0 _ rfl) (p := ⟨pb, 0, none⟩) h1 _, _, _, blk_put (blk_far KP.out (p := ⟨ab, 0, none⟩) (fun e => h1 e.symm) _) 0 _ rfl, blk_far (blk_far KW.out (p := ⟨ab, 0, none⟩) (fun e => h2 e.symm) _) (p := ⟨pb, 0, none⟩) (fun e => h3 e.symm) _, own_far (own_far (own_less hR hle) (fun e => ?_) _) (fun e => ?_) _, ⟨rfl, .inl ⟨rfl, rfl⟩⟩⟩
     ·obtain ⟨_, _, hg⟩ := own_blk_ty hR e
      omega
     ·obtain ⟨_, _, hg⟩ := own_blk_ty hR e
      omega)
    have HFF := Lib.hid (show Fp (fun k => k = ab ∨ k = pb ∨ k = wb ∨ k = fb) w ((w3.setCell ⟨ab, 0, none⟩ (.int .i64 1)).setCell ⟨pb, 0, none⟩ (.slice A5 vars c5)) from by
     have hf3 : Fp (fun k => k = ab ∨ k = pb ∨ k = wb ∨ k = fb) w w3 := (HF.out.imp fun i _ h => .inr (.inr (.inr h))).tr (Fp.of_below ((Below.refl w2.heap.size w2).drew.trans hb3))
     exact (hf3.setCell (a := ⟨ab, 0, none⟩) (fun _ => .inl rfl) _).setCell (a := ⟨pb, 0, none⟩) (fun _ => .inr (.inl rfl)) _)
    clear hR hb3 s0 sf0 s1 sf1 hHeld
    go_wp2
    simp [bodyPost, results, Tryz.results52, go_sem]
    exact ⟨HS.out, HFF.out⟩
   ·rw [hw] at HWr
    obtain ⟨hab, hva⟩ := hwi a hw
    have hal : a < t.rows.length := by have := HW.out.bl; have := HW.out.rl; omega
    have ea : ((a : Int) < 0) = False := eq_false (by omega)
    have eaI : atI (some a) = (a : Int) := rfl
    have HA := Lib.hid (And.intro hab (And.intro hva hal))
    have HWE := Lib.hid hw
    clear hwi hw hab hva hal
    go_wp2_with fail
    refine HWr.out.mono ?_
    rintro e w2 ⟨rfl, hb2⟩
    have hT2 := HT.out.below hb2
    have hF2 : Fp (fun k => k = fb) w w2 := HF.out.tr (Fp.of_below hb2)
    have hX2 := HX.out.below hb2 (lt_of_fp HLT.out.1 HF.out) (lt_of_fp HLT.out.2.1 HF.out) (lt_of_fp HLT.out.2.2.1 HF.out) (lt_of_fp HLT.out.2.2.2.1 HF.out) (lt_of_fp HLT.out.2.2.2.2.1 HF.out) (lt_of_fp HLT.out.2.2.2.2.2 HF.out)
    have HT := Lib.hid hT2
    have HF := Lib.hid hF2
    have HX := Lib.hid hX2
    clear hb2 hT2 hF2 hX2 HWr
    have HHe := Lib.hid (helps_any w2 w.heap.size tb vars a t vb vr vv vl rs HT.out HW.out HA.out.2.2)
    rcases hh : helps vars t a with _ | v
    ·
     rw [hh] at HHe
     have hl := HL.out
     have hl2 : (weights vars t a).map (fun w => ((2 : Int), ([] : List Rat), w)) = res := by
      rw [← hl]
      cases hfu' : fu.toNat <;> rw [loop, HWE.out] <;> simp only [hh]
     clear hl hh
     go_wp2_with fail
     refine HHe.out.mono ?_
     rintro e w3 ⟨rfl, hb3⟩
     have hT3 := HT.out.below hb3
     have hF3 : Fp (fun k => k = fb) w w3 := HF.out.tr (Fp.of_below hb3)
     have hX3 := HX.out.below hb3 (lt_of_fp HLT.out.1 HF.out) (lt_of_fp HLT.out.2.1 HF.out) (lt_of_fp HLT.out.2.2.1 HF.out) (lt_of_fp HLT.out.2.2.2.1 HF.out) (lt_of_fp HLT.out.2.2.2.2.1 HF.out) (lt_of_fp HLT.out.2.2.2.2.2 HF.out)
     have HT := Lib.hid hT3
     have HF := Lib.hid hF3
     have HX := Lib.hid hX3
     have eb : (atI none < 0) = True := eq_true (by decide)
     clear hb3 hT3 hF3 hX3 HHe
     have HWt := Lib.hid (weights_any w3 w.heap.size tb vars a t vb vr vv vl rs HT.out HW.out HA.out.2.2 HA.out.2.1)
     go_wp2_with fail
     refine HWt.out.mono ?_
     rintro e w4 ⟨hE, hb4⟩
     have hF4 : Fp (fun k => k = fb) w w4 := HF.out.tr (Fp.of_below hb4)
     have hX4 := HX.out.below hb4 (lt_of_fp HLT.out.1 HF.out) (lt_of_fp HLT.out.2.1 HF.out) (lt_of_fp HLT.out.2.2.1 HF.out) (lt_of_fp HLT.out.2.2.2.1 HF.out) (lt_of_fp HLT.out.2.2.2.2.1 HF.out) (lt_of_fp HLT.out.2.2.2.2.2 HF.out)
     have HX4 := Lib.hid hX4
     have HF4 := Lib.hid hF4
     clear hb4 hF4 hX4 HWt
     cases hws : weights vars t a with
     | none =>
      rw [hws] at hE hl2
      have hl3 : res = none := hl2.symm
      subst hl3
      obtain rfl : e = .panicked LargeL := hE
      exact ⟨rfl, ⟨rfl, HX4.out.ka, HX4.out.kp, HX4.out.kw⟩, HF4.out.imp fun i _ h => .inr (.inr (.inr h))⟩
     | some ws =>
      rw [hws] at hE hl2
      have hl3 : res = some (2, [], ws) := hl2.symm
      subst hl3
      obtain ⟨vw, rfl, hI⟩ := hE
      obtain ⟨A6, c6, rfl⟩ := own_slice hI
      have h2 := HNE.out.2.2.2.2.2.2.1
      have s0 : w4.cell? ⟨ab, 0, none⟩ = some (.int .i64 0) := blk_cell HX4.out.ka 0
      have sf0 : w4.frozen? ⟨ab, 0, none⟩ = false := blk_frozen HX4.out.ka 0
      have s1 : (w4.setCell ⟨ab, 0, none⟩ (.int .i64 2)).cell? ⟨wb, 0, none⟩ = some (.slice none 0 0) := blk_cell (blk_far HX4.out.kw (p := ⟨ab, 0, none⟩) (fun e => h2 e.symm) _) 0
      have sf1 : (w4.setCell ⟨ab, 0, none⟩ (.int .i64 2)).frozen? ⟨wb, 0, none⟩ = false := blk_frozen (blk_far HX4.out.kw (p := ⟨ab, 0, none⟩) (fun e => h2 e.symm) _) 0
      have HS := Lib.hid (show SEnd w.heap.size ab pb wb (some (2, [], ws)) (.returned (.tuple #[])) ((w4.setCell ⟨ab, 0, none⟩ (.int .i64 2)).setCell ⟨wb, 0, none⟩ (.slice A6 ws.length c6)) from by
       have h1 := HNE.out.2.2.2.2.2.1
       have h3 := HNE.out.2.2.2.2.2.2.2.1
       have hle := HF.out.size
       have hl := HLT.out
       refine ⟨rfl, blk_far (blk_put HX4.out.ka 0 _ rfl) (p := ⟨wb, 0, none⟩) h2 _, _, _, blk_far (blk_far HX4.out.kp (p := ⟨ab, 0, none⟩) (fun e => h1 e.symm) _) (p := ⟨wb, 0, none⟩) h3 _, blk_put (blk_far HX4.out.kw (p := ⟨ab, 0, none⟩) (fun e => h2 e.symm) _) 0 _ rfl, ⟨rfl, .inl ⟨rfl, rfl⟩⟩, own_far (own_far (own_less hI hle) (fun e => ?_) _) (fun e => ?_) _⟩
       ·obtain ⟨_, _, hg⟩ := own_blk_ty hI e
        omega
       ·obtain ⟨_, _, hg⟩ := own_blk_ty hI e
        omega)
      have HFF := Lib.hid (show Fp (fun k => k = ab ∨ k = pb ∨ k = wb ∨ k = fb) w ((w4.setCell ⟨ab, 0, none⟩ (.int .i64 2)).setCell ⟨wb, 0, none⟩ (.slice A6 ws.length c6)) from
       ((HF4.out.imp fun i _ h => .inr (.inr (.inr h))).setCell (a := ⟨ab, 0, none⟩) (fun _ => .inl rfl) _).setCell (a := ⟨wb, 0, none⟩) (fun _ => .inr (.inr (.inl rfl))) _)
      clear hI h2 hl2 hws
      go_wp2
      simp [bodyPost, results, Tryz.results52, go_sem]
      exact ⟨HS.out, HFF.out⟩
    ·rw [hh] at HHe
     have hrl := HW.out.cl a HA.out.2.2
     obtain ⟨hvN, hvc⟩ := helps_in (vars := vars) (t := t) (row := rdR t.rows a) (rdR t.rows a).length 0 (by omega) v hh
     have hvN' : v < t.value.length := by omega
     have ev : ((v : Int) < 0) = False := eq_false (by omega)
     have evI : atI (some v) = (v : Int) := rfl
     have HVV := Lib.hid (And.intro hvN' hvc)
     have HHE := Lib.hid hh
     clear hrl hvN hvN' hvc hh
     go_wp2_with fail
     refine HHe.out.mono ?_
     rintro e w3 ⟨rfl, hb3⟩
     have hT3 := HT.out.below hb3
     have hF3 : Fp (fun k => k = fb) w w3 := HF.out.tr (Fp.of_below hb3)
     have hX3 := HX.out.below hb3 (lt_of_fp HLT.out.1 HF.out) (lt_of_fp HLT.out.2.1 HF.out) (lt_of_fp HLT.out.2.2.1 HF.out) (lt_of_fp HLT.out.2.2.2.1 HF.out) (lt_of_fp HLT.out.2.2.2.2.1 HF.out) (lt_of_fp HLT.out.2.2.2.2.2 HF.out)
     have HT := Lib.hid hT3
     have HF := Lib.hid hF3
     have HX := Lib.hid hX3
     have f0 : w3.cell? ⟨fb, 0, none⟩ = some (.int .i64 fu) := blk_cell hX3.kf 0
     have ff0 : w3.frozen? ⟨fb, 0, none⟩ = false := blk_frozen hX3.kf 0
     clear hb3 hT3 hF3 hX3 HHe
     by_cases hfz : fu ≤ 0
     ·have hl := HL.out
      rw [show fu.toNat = 0 by omega, loop, HWE.out] at hl
      simp only [HHE.out] at hl
      have ef : (fu ≤ 0) = True := eq_true hfz
      subst hl
      have HS := Lib.hid (show SEnd w.heap.size ab pb wb (some (0, [], [])) (.returned (.tuple #[])) w3 from ⟨rfl, HX.out.ka, _, _, HX.out.kp, HX.out.kw, ⟨rfl, .inl ⟨rfl, rfl⟩⟩, ⟨rfl, .inl ⟨rfl, rfl⟩⟩⟩)
      clear hfz
      go_wp2
      simp [bodyPost, results, Tryz.results52, go_sem]
      exact ⟨HS.out, HF.out.imp fun i _ h => .inr (.inr (.inr h))⟩
     ·obtain ⟨k, hk⟩ : ∃ k, fu.toNat = k + 1 := ⟨fu.toNat - 1, by omega⟩
      have hl := HL.out
      rw [hk, loop, HWE.out] at hl
      simp only [HHE.out] at hl
      have ef : (fu ≤ 0) = False := eq_false hfz
      have ewf : wrap64 (fu - 1) = fu - 1 := by have := HFU.out; unfold In64 at this; unfold wrap64; omega
      have ewf2 : IntKind.i64.wrap (fu - 1) = fu - 1 := by rw [IntKind.wrap_i64]; unfold wrap64 at ewf; exact ewf
      have hfu2 : In64 (fu - 1) := by have := HFU.out; unfold In64 at this ⊢; omega
      have hk2 : (fu - 1).toNat = k := by omega
      have HK := Lib.hid (And.intro hfu2 (And.intro hk hk2))
      have HLL := Lib.hid hl
      have hfb := HLT.out.2.2.2.2.2
      have HT4 := Lib.hid (HT.out.farF (i := 0) (blk_ne HT.out.box HX.out.kf (by decide)) hfb (.int .i64 (fu - 1)))
      have HX4 := Lib.hid (HX.out.setF HNE.out (fu - 1))
      have HF4 := Lib.hid (HF.out.setCell (a := ⟨fb, 0, none⟩) (fun _ => rfl) (.int .i64 (fu - 1)))
      obtain ⟨w4, hw4⟩ : ∃ w4, w3.setCell ⟨fb, 0, none⟩ (.int .i64 (fu - 1)) = w4 := ⟨_, rfl⟩
      rw [hw4] at HT4 HX4 HF4
      have HEX := Lib.hid (exchange_any w4 w.heap.size tb vars a v t vb vr vv vl rs HT4.out HF4.out.size HW.out HA.out.2.2 HA.out.2.1 HVV.out.1 HVV.out.2)
      clear hfz hk hl hfu2 hk2 hfb
      go_wp2_with fail
      clear ewf ewf2 f0 ff0 ef hw4
      refine HEX.out.mono ?_
      rintro e w5 ⟨hE, hb5⟩
      have hF5 : Fp (fun k => k = fb) w w5 := ⟨hb5.os.trans HF4.out.os, hb5.tape.trans HF4.out.tape, hb5.output.trans HF4.out.output, Nat.le_trans HF4.out.size hb5.size, fun i hi hn => (hb5.block i hi).trans (HF4.out.block i hi hn)⟩
      have hX5 := HX4.out.below hb5 HLT.out.1 HLT.out.2.1 HLT.out.2.2.1 HLT.out.2.2.2.1 HLT.out.2.2.2.2.1 HLT.out.2.2.2.2.2
      have HX5 := Lib.hid hX5
      have HF5 := Lib.hid hF5
      clear hb5 hF5 hX5 HEX
      cases hx : exchange vars t a v with
      | none =>
       have hl := HLL.out
       rw [hx] at hE hl
       have hl3 : res = none := hl.symm
       subst hl3
       obtain rfl : e = .panicked LargeL := hE
       exact ⟨rfl, ⟨rfl, HX5.out.ka, HX5.out.kp, HX5.out.kw⟩, HF5.out.imp fun i _ h => .inr (.inr (.inr h))⟩
      | some t2 =>
       have hl := HLL.out
       rw [hx] at hE hl
       have hl3 : loop vars k t2 = res := hl
       obtain ⟨rfl, vn, hT5⟩ := hE
       have hW5 := exch_wf HW.out HA.out.2.2 HVV.out.1 hx
       have HT5 := Lib.hid hT5
       have HW5 := Lib.hid hW5
       have HL5 := Lib.hid hl3
       have HMS := Lib.hid (show fuelOf (w5.heap[fb]?) < fuelOf (wr.heap[fb]?) from by
        rw [HX5.out.kf, HXr.out.kf]
        show (fu - 1).toNat < fu.toNat
        have := HK.out.2.1
        have := HK.out.2.2
        omega)
       clear hl hl3 hT5 hW5 hx
       go_wp2
       exact ⟨⟨t2, fu - 1, vb, vr, rs.set a vn, HK.out.1, by rw [HK.out.2.2]; exact HL5.out, HW5.out, HT5.out, HX5.out, HF5.out⟩, HMS.out⟩
end Go.Proofs.YtbpjnkeilhfajaaGreat.Ln
end

section
/- What Solve's loop answers: it fits, and it lies in memory as rows do. -/
namespace Go.Proofs.YtbpjnkeilhfajaaGreat.Ln
open Go.RowKit Go.Proofs.YtbpjnkeilhfajaaGreat.Num Go.Proofs.YtbpjnkeilhfajaaGreat.Given Go.Proofs.YtbpjnkeilhfajaaGreat.Lin Go.Proofs.YtbpjnkeilhfajaaGreatW.PrintWords
set_option linter.unusedVariables false
set_option linter.unusedSimpArgs false
theorem wholeF_in {n : Int} : ∀ {l : List Rat} {ws : List Int}, wholeF n l = some ws → ∀ x, x ∈ ws → In64 x
 | [], ws, h, x, hx => by rw [wholeF] at h; cases h; cases hx
 | y :: l, ws, h, x, hx => by
  rw [wholeF] at h
  obtain ⟨z, hz, h2⟩ := bind_some' h
  obtain ⟨r, hr, h3⟩ := bind_some' h2
  cases h3
  rcases List.mem_cons.1 hx with rfl | hx
  ·obtain ⟨e, hi⟩ := okI_some hz
   rw [e]; exact hi
  ·exact wholeF_in hr x hx
theorem weights_in {vars : Nat} {t : Tab} {a : Nat} {ws : List Int} (h : weights vars t a = some ws) : ∀ x, x ∈ ws → In64 x := by
 unfold weights at h
 obtain ⟨l, _, h2⟩ := bind_some' h
 obtain ⟨n, _, h3⟩ := bind_some' h2
 exact wholeF_in h3
theorem loop_fit {vars : Nat} : ∀ (f : Nat) {t : Tab} (hW : WfT vars t) {a : Int} {p : List Rat} {ws : List Int}, loop vars f t = some (a, p, ws) → (∀ x, x ∈ p → Fit x) ∧ (∀ x, x ∈ ws → In64 x) := by
 intro f
 induction f with
 | zero =>
  intro t hW a p ws h
  rw [loop] at h
  cases hw : wrong vars t with
  | none =>
   rw [hw] at h
   cases h
   exact ⟨fun x hx => fit_mem hW.fv (List.mem_of_mem_take hx), fun x hx => by cases hx⟩
  | some i =>
   rw [hw] at h
   simp only at h
   cases hh : helps vars t i with
   | none =>
    rw [hh] at h
    obtain ⟨w, hw', e⟩ := Option.map_eq_some_iff.1 h
    cases e
    exact ⟨fun x hx => (by cases hx), weights_in hw'⟩
   | some v =>
    rw [hh] at h
    cases h
    exact ⟨fun x hx => (by cases hx), fun x hx => by cases hx⟩
 | succ f ih =>
  intro t hW a p ws h
  rw [loop] at h
  cases hw : wrong vars t with
  | none =>
   rw [hw] at h
   cases h
   exact ⟨fun x hx => fit_mem hW.fv (List.mem_of_mem_take hx), fun x hx => by cases hx⟩
  | some i =>
   rw [hw] at h
   simp only at h
   obtain ⟨hi, hv⟩ := wrong_in t.basic.length 0 none (by omega) (fun b hb => by cases hb) i hw
   cases hh : helps vars t i with
   | none =>
    rw [hh] at h
    obtain ⟨w, hw', e⟩ := Option.map_eq_some_iff.1 h
    cases e
    exact ⟨fun x hx => (by cases hx), weights_in hw'⟩
   | some v =>
    rw [hh] at h
    obtain ⟨t', ht', h2⟩ := bind_some' h
    have hir : i < t.rows.length := by have := hW.bl; have := hW.rl; omega
    obtain ⟨hvl, _⟩ := helps_in (vars := vars) (t := t) (rdR t.rows i).length 0 (by omega) v hh
    exact ih (exch_wf hW hir (by rw [← hW.cl i hir]; exact hvl) ht') h2
theorem right_of {x : Rat} (h : Fit x) : rightS (ofQ x) = true := by
 have e := mk_low (low_q x) (fit64 h).1 (fit64 h).2
 unfold rightS rightPQ ofQ
 simp only [e, beq_self_eq_true, Bool.and_self]
theorem toQ_of (x : Rat) : toQ (ofQ x) = x := by
 unfold toQ ofQ
 rw [Int.toNat_natCast]
 exact Rat.mkRat_self x
theorem chkP_of {l : List S40} {p : List Rat} (h : ∀ x, x ∈ p → Fit x) : chkP l (p.map ofQ) = checkPoint (l.map toZ) p := by
 unfold chkP
 have e1 : (p.map ofQ).all rightS = true := by
  rw [List.all_eq_true]
  intro y hy
  obtain ⟨x, hx, rfl⟩ := List.mem_map.1 hy
  exact right_of (h x hx)
 have e2 : (p.map ofQ).map toQ = p := by
  rw [List.map_map]
  conv => rhs; rw [← List.map_id p]
  exact List.map_congr_left fun x _ => toQ_of x
 rw [e1, e2, Bool.true_and]
theorem reps_Q (w : World) (base : Nat) (ok : Nat → Prop) : ∀ (p : List Rat), Reps (k28.M w base ok) 2 (p.map ofQ) (flatQ p) := by
 intro p
 refine ⟨by rw [flatQ_len, List.length_map], fun j x hx => ?_⟩
 rw [List.getElem?_map] at hx
 obtain ⟨y, hy, rfl⟩ := Option.map_eq_some_iff.1 hx
 obtain ⟨hj, e⟩ := List.getElem?_eq_some_iff.1 hy
 obtain ⟨a, b⟩ := flatQ_get hj
 rw [e] at a b
 have hl : j * 2 + 1 < (flatQ p).length := by rw [flatQ_len]; omega
 refine ⟨[.int .i64 y.num], [.int .i64 y.den], ?_, rfl, rfl⟩
 apply List.ext_getElem?
 intro i
 rw [List.getElem?_take]
 match i with
 | 0 => simp [a]
 | 1 => simp [b]
 | i + 2 => simp; omega
theorem RowQ.toR {w : World} {base : Nat} {v : Value} {p : List Rat} (h : RowQ w base v p) : k28.R 28 w base (fun k => base ≤ k) v (p.map ofQ) := by
 refine ⟨fun k hk => ?_, flatQ p, ?_, reps_Q w base _ p⟩
 ·obtain ⟨_, _, hg⟩ := own_blk_ty h hk
  exact hg
 ·rw [List.length_map]; exact h
theorem reps_I (w : World) (base : Nat) (ok : Nat → Prop) : ∀ (p : List Int), Reps ((Kd.int .i64).M w base ok) 1 p (intv p) := by
 intro p
 refine ⟨by simp [intv], fun j x hx => ?_⟩
 obtain ⟨hj, e⟩ := List.getElem?_eq_some_iff.1 hx
 have : ((intv p).drop (j * 1)).take 1 = [.int .i64 x] := by
  rw [Nat.mul_one, List.drop_eq_getElem_cons (by simpa [intv] using hj)]
  simp [intv, e]
 rw [this]
 rfl
theorem RowI.toR {w : World} {base : Nat} {v : Value} {p : List Int} (h : RowI w base v p) : (Kd.int .i64).R 2 w base (fun k => base ≤ k) v p := by
 refine ⟨fun k hk => ?_, intv p, h, reps_I w base _ p⟩
 obtain ⟨_, _, hg⟩ := own_blk_ty h hk
 exact hg
end Go.Proofs.YtbpjnkeilhfajaaGreat.Ln
end
