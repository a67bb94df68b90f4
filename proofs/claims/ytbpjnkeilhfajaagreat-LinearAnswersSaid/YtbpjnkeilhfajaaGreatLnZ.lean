/- linear's made. -/
import Derived.Test.YtbpjnkeilhfajaaGreatTl
import Derived.Test.YtbpjnkeilhfajaaGreatLnV
namespace Go.Proofs
theorem Zp2a {p q : Prop} (hq : q) (h : p = q := by first | (simp only [Act.put, List.setIfInBounds_toArray, List.set_cons_zero, List.set_cons_succ]; done) | (simp only [Act.put, List.setIfInBounds_toArray, List.set_cons_zero, List.set_cons_succ]; rfl) | rfl) : p := Eq.mpr h hq
theorem Z2a0 {p : Prop} (h : p := by kernel_rfl) : p := h
end Go.Proofs
namespace Go.Proofs.YtbpjnkeilhfajaaGreat.Ln
open Go.RowKit Go.Proofs.YtbpjnkeilhfajaaGreat.Num Go.Proofs.YtbpjnkeilhfajaaGreat.Given Go.Proofs.YtbpjnkeilhfajaaGreat.Lin Go.Proofs.YtbpjnkeilhfajaaGreatW.PrintWords
set_option linter.unusedVariables false
set_option linter.unusedSimpArgs false
theorem tab_keep {w w2 : World} {base tb vars : Nat} {t : Tab} {vb vr vv vl : Value} {rs : List Value} (h : Hid (TabAt w base tb vars t vb vr vv vl rs)) (hb : Below w.heap.size w w2) : Hid (TabAt w2 base tb vars t vb vr vv vl rs) := Lib.hid (h.out.below hb)
theorem TabAt.bx {w w1 : World} {base tb vars : Nat} {t : Tab} {vb vr vv vl : Value} {rs : List Value} (h : TabAt w base tb vars t vb vr vv vl rs) {row : Option Nat} (hg : w.grownBy w1 row) (hne : row ≠ some tb) : w1.heap[tb]? = some (.cells #[.int .i64 vars, vb, vr, vv, vl] 72 (0, 0)) :=
 (hg.block tb (blk_lt h.box) (fun e => hne e.symm)).trans h.box
theorem TabAt.bxc {w w1 : World} {base tb vars : Nat} {t : Tab} {vb vr vv vl : Value} {rs : List Value} (h : TabAt w base tb vars t vb vr vv vl rs) {row : Option Nat} (hg : w.grownBy w1 row) (hne : row ≠ some tb) :
  (w1.cell? ⟨tb, 1, none⟩ = some vb ∧ w1.frozen? ⟨tb, 1, none⟩ = false) ∧ (w1.cell? ⟨tb, 2, none⟩ = some vr ∧ w1.frozen? ⟨tb, 2, none⟩ = false) ∧ (w1.cell? ⟨tb, 3, none⟩ = some vv ∧ w1.frozen? ⟨tb, 3, none⟩ = false) ∧ (w1.cell? ⟨tb, 4, none⟩ = some vl ∧ w1.frozen? ⟨tb, 4, none⟩ = false) :=
 ⟨⟨blk_cell (h.bx hg hne) 1, blk_frozen (h.bx hg hne) 1⟩, ⟨blk_cell (h.bx hg hne) 2, blk_frozen (h.bx hg hne) 2⟩, ⟨blk_cell (h.bx hg hne) 3, blk_frozen (h.bx hg hne) 3⟩, ⟨blk_cell (h.bx hg hne) 4, blk_frozen (h.bx hg hne) 4⟩⟩
theorem infoN : (Tryz.prog.info? 3).map (fun i => (i.zero, i.size, i.bytes)) = some (some (.int .i64 0), 1, 8) := by kernel_rfl
theorem infoS : (Tryz.prog.info? 26).map (fun i => (i.zero, i.size, i.bytes)) = some (some (.slice none 0 0), 1, 24) := by kernel_rfl
theorem wpList_app {P : Program} {w : World} {ops : Array Oper} {rest : List Oper} {o : Oper} {a : Act} {Q : Exit → Act → World → Prop} (hgd : o.guard = none) (s x : Operand) (t : TypeId)
  (ho : o.op = .call { callee := .builtin .append, args := #[s, x], argTypes := #[t, t] })
  (base : Nat) (e : TypeId) (z : Value) (size bytes : Nat) (ht : P.underlying t = some (.slice e)) (hi : (P.info? e).map (fun i => (i.zero, i.size, i.bytes)) = some (some z, size, bytes)) (hzs : z.cells.size = size) (hsz : 0 < size)
  (v : Value) (n : Nat) (xs : List Value) (hs : a.eval s = v) (hown : w.ownsRow base e size v n xs)
  (ad : Addr) (m c : Nat) (news : List Value) (hx : a.eval x = .slice (some ad) m c) (hl : news.length = m * size) (hnews : ∀ j u, news[j]? = some u → w.cell? (ad.add j) = some u) (h1 : ∀ u ∈ news, u.oneCell' = true)
  (h63 : n + m ≤ maxLen) (hbytes : (n + m) * bytes ≤ 140737488355328) (hbase : base ≤ w.heap.size)
  (h : ∀ v' w', w'.ownsRow base e size v' (n + m) (xs ++ news) → w.grownBy w' v.ownBlock → (v'.ownBlock = v.ownBlock ∨ ∃ b, v'.ownBlock = some b ∧ w.heap.size ≤ b) → wpList P ops Q rest (a.put o.dst v') w') : wpList P ops Q (o :: rest) a w := by
 refine wpList_plain hgd fun K hK => ?_
 cases hq : P.info? e with
 | none => rw [hq] at hi; cases hi
 | some i =>
  rw [hq] at hi
  injection hi with hi
  injection hi with h2 h3
  injection h3 with h3 h4
  obtain ⟨v', w', hr, k1, k2, _, k3⟩ := run_append_own_at (P := P) w base t o.type e i z size bytes ht hq h2 h3 h4 hzs hsz v n xs hown ad m c news hl hnews h1 h63 hbytes hbase
  unfold Oper.wp execOp
  simp only [ho, resolve, invoke, builtin, Sem.run_bind, Sem.run_pure, Result.andThen_ok, List.map_toArray, List.map_cons, List.map_nil, hs, hx, hr]
  refine hK _ _ (h v' w' k1 k2 ?_)
  rcases k3 with k3 | k3
  ·exact .inl k3
  ·exact .inr ⟨_, k3, Nat.le_refl _⟩
theorem neg_ok {a : Int} (ha : In64 a) (h : In64 (-a)) (w : World) :
  Calls Tryz.prog 79 #[.int .i64 a] w fun e w' => e = .returned (.tuple #[.int .i64 (-a), .bool true]) ∧ Below w.heap.size w w' := by
 have := Neg_any a w ha
 rwa [show fitp (-a) = (-a, true) from if_pos h] at this
theorem neg_no {a : Int} (ha : In64 a) (h : ¬ In64 (-a)) (w : World) :
  Calls Tryz.prog 79 #[.int .i64 a] w fun e w' => e = .returned (.tuple #[.int .i64 0, .bool false]) ∧ Below w.heap.size w w' := by
 have := Neg_any a w ha
 rwa [show fitp (-a) = (0, false) from if_neg h] at this
theorem okI_some {x y : Int} (h : okI x = some y) : y = x ∧ In64 x := by
 unfold okI at h
 split at h
 ·rename_i hf; cases h; exact ⟨rfl, hf⟩
 ·cases h
theorem wholey {n : Int} {z : Rat} (h : (n : Rat) = z) (w : World) : Calls Tryz.prog 84 #[.int .i64 n] w fun e w' => e = .returned (rv z) ∧ Below w.heap.size w w' := by subst h; exact whole_q n w
theorem lims_own {w : World} {base tb vars : Nat} {bs : List Nat} {rr : List (List Rat)} {vs lims : List Rat} {vb vr vv vl : Value} {rs : List Value} {i : Nat} (h : TabAt w base tb vars ⟨bs, rr, vs, lims⟩ vb vr vv vl rs) (hl : lims.length = i) : w.ownsRow base 28 2 vl i (flatQ lims) := by
 have := h.limits
 unfold RowQ at this
 rw [← hl]
 exact this
def MadeEnd (w w' : World) (vars : Nat) (o : Option Tab) (e : Ending) : Prop := match o with
 | some t => ∃ tb vb vr vv vl rs, e = .returned (.pointer (some ⟨tb, 0, none⟩)) ∧ TabAt w' w.heap.size tb vars t vb vr vv vl rs
 | none => e = .panicked LargeL
def rowOf (vars n : Nat) (r : S40) : List Rat := r.f0.map (fun c : Int => (c : Rat)) ++ List.replicate (vars + n - r.f0.length) 0
set_option maxHeartbeats 64000000 in
set_option maxRecDepth 100000 in
theorem made_any (l : List S40) (A : Option Addr) (c vars : Nat) (w : World) (hC : Kd.C k40 w A l.length l) (hc : l.length ≤ c) (hin : ∀ r, r ∈ l → RowIn r) (hv : vars ≤ 64) (hl : l.length ≤ 256) (hlen : ∀ r, r ∈ l → r.f0.length = vars) :
  Calls Tryz.prog 53 #[.slice A l.length c, .int .i64 vars] w fun e w' => MadeEnd w w' vars (made (l.map toZ) vars) e ∧ Below w.heap.size w w' := by
 obtain ⟨res, hres⟩ : ∃ res, made (l.map toZ) vars = res := ⟨_, rfl⟩
 rw [hres]
 unfold made at hres
 obtain ⟨N, hN⟩ : ∃ N, vars + l.length = N := ⟨_, rfl⟩
 have ewn : wrap64 ((vars : Int) + (l.length : Int)) = (N : Int) := by unfold wrap64; omega
 have ewn2 : IntKind.i64.wrap ((vars : Int) + (l.length : Int)) = (N : Int) := by rw [IntKind.wrap_i64]; unfold wrap64 at ewn; exact ewn
 have HC := Lib.hid hC
 have HIN := Lib.hid hin
 have HLEN := Lib.hid hlen
 have HNN := Lib.hid (And.intro hN (And.intro hv hl))
 have HRES := Lib.hid hres
 obtain ⟨z, hz⟩ : ∃ z : Rat, z = 0 := ⟨_, rfl⟩
 have HZ := Lib.hid hz
 have HWz := Lib.hid (fun W => wholez hz W)
 clear hC hin hlen hv hl hres hz hN
 go_enter Tryz.func53, Tryz.ntmps53
 go_wp2
 go_loopw [20] (fun v20 wz => ∃ (j : Nat) (vv : Value), j ≤ N ∧ v20 = .int .i64 j ∧ TabAt wz w.heap.size w.heap.size vars ⟨[], [], List.replicate j z, []⟩ (.slice none 0 0) (.slice none 0 0) vv (.slice none 0 0) [] ∧ Below w.heap.size w wz) (fun v20 _ => N - (intOf v20).toNat)
 case atStart => exact ⟨0, _, Nat.zero_le _, rfl, TabAt.nil w vars, (Below.refl _ _).alloc (Nat.le_refl _) _⟩
 case round =>
  obtain ⟨j, vv, hj, rfl, hT, hbr⟩ := hrel
  by_cases hjl : j < N
  ·have HT := Lib.hid (hT.below (w1 := wr.drew) (Below.refl _ _).drew)
   have EW := Lib.hid (wrapj (show j + 1 < 9223372036854775808 by have := HNN.out; omega))
   have HC5 := Lib.hid (show Cells [(⟨w.heap.size, 3, none⟩, vv)] wr from ⟨blk_cell hT.box 3, trivial⟩)
   have HBR := Lib.hid hbr
   have HNB := Lib.hid (hT.notb hT.value (by decide))
   clear hT hbr
   go_wp2_with fail
   refine wp_region_L 10 (Hd _ w w.heap.size) Z2a0 (⟨Nat.le_refl _, HC5.out.keep (Below.refl _ _).drew, HBR.out.drew⟩) (fun hHeld => ?_)
   refine tl0.go ?_
   refine tl1.go ?_
   refine tl2.go ?_
   refine tl3.go ?_
   refine tl4.go ?_
   refine wpAnyL_ready (rs := [5]) Z2a0 (by simp) (al5 (fun K hK => ?_) (AllReadyL.nil))
   focus go_simp
   focus (refine (HWz.out _).mono ?_; rintro e w2 ⟨rfl, hb2⟩; have HT := tab_keep HT hb2; have HHW := Lib.hid (hHeld.keep hb2))
   focus try simp only []
   refine hK.out _ _ (fun _ => ?_) (fun hHeld => ?_)
   ·exact hHeld.keep hb2
   focus (have hHeld := hHeld (by decide); clear hK K; refine Zp2a ?_)
   refine wpAnyL_ready (rs := [6]) Z2a0 (by simp) (al6 (fun K hK => ?_) (AllReadyL.nil))
   focus go_simp
   refine hK.out _ _ (fun _ => ?_) (fun hHeld => ?_)
   ·exact hHeld.keep ((Below.refl _ _).alloc (Nat.le_refl _) _)
   focus (have hHeld := hHeld (by decide); clear hK K; refine Zp2a ?_)
   refine wpAnyL_ready (rs := [7]) Z2a0 (by simp) (al7 (fun K hK => ?_) (AllReadyL.nil))
   focus (refine step_append_cells (w0 := w) w.heap.size Z2a0 (.tmp 26) (.tmp 28) 26 28 (.agg #[.int .i64 0, .int .i64 0]) 2 16 rfl Tryz.underlying26 infoQ rfl (by decide) (by decide) vv (List.replicate j z).length (flatQ (List.replicate j z)) [.int .i64 z.num, .int .i64 z.den] rfl rfl rfl ?_ HT.out.value ?_ ?_ ?_ ?_; rotate_left 4; intro v1 w1 ho hb1 hg hat; obtain ⟨A1, c1, rfl⟩ := own_slice ho)
   refine hK.out _ _ (fun _ => ?_) (fun hHeld => ?_)
   ·exact ⟨Nat.le_refl _, ⟨blk_cell (HT.out.bx hg HNB.out) 3, trivial⟩, hb1⟩
   focus (have hHeld := hHeld (by decide); clear hK K; refine Zp2a ?_)
   refine tl8.go ?_
   refine tl9.go ?_
   refine wpAnyL_ready (rs := [10]) Z2a0 (by simp) (al10 (fun K hK => ?_) (AllReadyL.nil))
   focus ((obtain ⟨s0, sf0⟩ := (HT.out.bxc hg HNB.out).2.2.1; go_simp))
   refine hK.out _ _ (fun h => absurd rfl h) (fun _ => ?_)
   focus (clear hK K; refine Zp2a ?_)
   refine wpAnyL_done Z2a0 ?_ _; rotate_left 1
   ·intro u hu
    simp only [List.mem_cons, List.not_mem_nil, or_false] at hu
    rcases hu with rfl | rfl <;> rfl
   ·exact HHW.out.below
   ·exact HHW.out.size
   ·rw [List.length_replicate]; have := HNN.out; omega
   have HA := Lib.hid (HT.out.appV (l := List.replicate (j + 1) z) hg (by
    have e : List.replicate (j + 1) z = List.replicate j z ++ [z] := by rw [List.replicate_succ']
    unfold RowQ
    rw [e, List.length_append, flatQ_app]
    exact ho) hat)
   have HB := Lib.hid (show Below w.heap.size w (w1.setCell ⟨w.heap.size, 3, none⟩ (.slice A1 ((List.replicate j z).length + 1) c1)) from by refine Below.setCell hb1 ?_ _; exact Nat.le_refl _)
   rw [List.length_replicate] at HA HB
   clear hg ho hb1 hat s0 sf0 hHeld HHW hb2
   go_wp2
   refine ⟨⟨j + 1, _, hjl, congrArg (Value.int .i64) EW.out, HA.out, HB.out⟩, ?_⟩
   rw [EW.out]
   simp only [intOf, Int.toNat_natCast]
   exact meas_lt hjl
  ·obtain rfl : j = N := by omega
   rw [HZ.out] at hT
   have HT0 := Lib.hid hT
   have HBR0 := Lib.hid hbr
   have hX := HRES.out
   have hlz : (l.map toZ).length = l.length := List.length_map _
   rw [hlz, HNN.out.1] at hX
   have hrows : (l.map toZ).map (fun r => r.1.map (fun c : Int => (c : Rat)) ++ List.replicate (j - r.1.length) 0) = l.map (rowOf vars l.length) := by
    rw [List.map_map]
    refine List.map_congr_left fun r hr => ?_
    show r.f0.map _ ++ List.replicate (j - r.f0.length) 0 = rowOf vars l.length r
    unfold rowOf
    rw [HNN.out.1]
   rw [hrows] at hX
   obtain ⟨rL, hrL⟩ : ∃ rL, limF (l.map toZ) = rL := ⟨_, rfl⟩
   rw [hrL] at hX
   have HX := Lib.hid hX
   have HRL := Lib.hid hrL
   have HBS := Lib.hid (show w.heap.size < w.heap.size + 1 from Nat.lt_succ_self _)
   clear hT hbr hX hlz hrows hrL hj hjl
   go_wp2
   go_loopw [35] (fun v35 wz => ∃ (i : Nat) (vb vr vl : Value) (rs : List Value) (lims : List Rat), i ≤ l.length ∧ v35 = .int .i64 i ∧ lims.length = i ∧ rL = (limF ((l.drop i).map toZ)).bind (fun r => some (lims ++ r)) ∧ TabAt wz w.heap.size w.heap.size vars ⟨(List.range i).map (vars + ·), (l.take i).map (rowOf vars l.length), List.replicate j 0, lims⟩ vb vr vv vl rs ∧ Below w.heap.size w wz) (fun v35 _ => l.length - (intOf v35).toNat)
   case atStart => exact ⟨0, _, _, _, [], [], Nat.zero_le _, rfl, rfl, by rw [List.drop_zero, HRL.out]; cases rL <;> rfl, by simpa using HT0.out, HBR0.out⟩
   case round =>
    obtain ⟨i, vb, vr, vl, rs, lims, hi, rfl, hll, hF, hT, hbr⟩ := hrel
    by_cases hil : i < l.length
    ·obtain ⟨ad, A2, c2, e, x0, x1, l2, C2⟩ := el_R HC.out hil
     have hr := HIN.out _ (List.getElem_mem hil)
     have hrl := HLEN.out _ (List.getElem_mem hil)
     have htk := List.take_succ_eq_append_getElem hil
     rw [List.drop_eq_getElem_cons hil, List.map_cons, limF] at hF
     generalize l[i] = x at *
     subst e
     have EW := Lib.hid (wrapj (show i + 1 < 9223372036854775808 by have := HNN.out; omega))
     have evi : wrap64 ((vars : Int) + (i : Int)) = ((vars + i : Nat) : Int) := by have := HNN.out; unfold wrap64; omega
     have evi2 : IntKind.i64.wrap ((vars : Int) + (i : Int)) = ((vars + i : Nat) : Int) := by rw [IntKind.wrap_i64]; unfold wrap64 at evi; exact evi
     have y0 := kcell hbr x0
     have y1 := kcell hbr x1
     have HBR := Lib.hid hbr
     have HT1 := Lib.hid (hT.below (w1 := wr.alloc (.cells #[.slice A2 x.f0.length c2, .int .i64 x.f1] 40)) ((Below.refl _ _).alloc (Nat.le_refl _) _))
     have b1 : (wr.alloc (.cells #[.slice A2 x.f0.length c2, .int .i64 x.f1] 40)).cell? ⟨w.heap.size, 1, none⟩ = some vb := blk_cell HT1.out.box 1
     have HNBB := Lib.hid (HT1.out.notb HT1.out.basic (by decide))
     have HF := Lib.hid hF
     have HLL := Lib.hid hll
     have HTK := Lib.hid htk
     have HXR := Lib.hid (And.intro hr hrl)
     have HC2 := Lib.hid C2
     have HVB := Lib.hid (fun k (hk : vb.ownBlock = some k) => blk_lt (own_blk_ty hT.basic hk).choose_spec.1)
     have HVLm := Lib.hid (fun k (hk : vl.ownBlock = some k) => blk_lt (own_blk_ty hT.limits hk).choose_spec.1)
     have HTB0 := Lib.hid (blk_lt hT.box)
     clear hbr x0 x1 hT hF hll htk hr hrl C2
     have HT2 := Lib.hid (HT1.out.below (w1 := (wr.alloc (.cells #[.slice A2 x.f0.length c2, .int .i64 x.f1] 40)).alloc (.cells #[.int .i64 ((vars : Int) + (i : Int))] 3)) ((Below.refl _ _).alloc (Nat.le_refl _) _))
     have hown : ((wr.alloc (.cells #[.slice A2 x.f0.length c2, .int .i64 x.f1] 40)).alloc (.cells #[.int .i64 ((vars : Int) + (i : Int))] 3)).ownsRow w.heap.size 3 1 vb i (natv ((List.range i).map (vars + ·))) := by
      have h := HT2.out.basic
      unfold RowN at h
      change World.ownsRow _ _ _ _ _ ((List.range i).map (vars + ·)).length _ at h
      rwa [List.length_map, List.length_range] at h
     have HOWN := Lib.hid hown
     clear hown
     go_wp2_with (at_builtin; refine Hid.out ?_)
     refine Lib.hid ?_
     refine wpList_app rfl (.tmp 44) (.tmp 48) _ rfl w.heap.size 3 (.int .i64 0) 1 8 Tryz.underlying69 infoN rfl (by decide) vb i _ rfl HOWN.out ⟨wr.heap.size + 1, 0, none⟩ 1 1 [.int .i64 ((vars : Int) + (i : Int))] rfl rfl ?_ ?_ ?_ ?_ ?_ ?_
     ·intro j_ u_ hu_
      match j_, hu_ with
      | 0, hu_ => cases hu_; rw [add_z]; simp [go_sem]
      | j_ + 1, hu_ => cases hu_
     ·intro u hu
      rw [List.mem_singleton.1 hu]; rfl
     ·have := HNN.out; unfold maxLen; omega
     ·have := HNN.out; omega
     ·have := HBR.out.size; simp; omega
     intro v1 w1 ho hg hat
     have HTB := Lib.hid (HT2.out.appB (l := (List.range (i + 1)).map (vars + ·)) hg (by
      unfold RowN
      rw [List.length_map, List.length_range, List.range_succ, List.map_append]
      have e : natv ((List.range i).map (vars + ·) ++ [i].map (vars + ·)) = natv ((List.range i).map (vars + ·)) ++ [.int .i64 ((vars : Int) + (i : Int))] := by simp [natv]
      rw [e]
      exact ho) hat)
     have HBW := Lib.hid (show Below w.heap.size w (w1.setCell ⟨w.heap.size, 1, none⟩ v1) from by
      refine Below.setCell ?_ ?_ _
      ·refine Below.grown ((HBR.out.alloc HBR.out.size _).alloc (by simp; have := HBR.out.size; omega) _) hg (by simp; have := HBR.out.size; omega) ?_
       intro k hk
       obtain ⟨_, _, h⟩ := own_blk_ty HOWN.out hk
       exact h
      ·exact Nat.le_refl _)
     have HRB := Lib.hid (show (w1.setCell ⟨w.heap.size, 1, none⟩ v1).heap[wr.heap.size]? = some (.cells #[.slice A2 x.f0.length c2, .int .i64 x.f1] 40 (0, 0)) from by
      refine blk_far ?_ (p := ⟨w.heap.size, 1, none⟩) (by show wr.heap.size ≠ w.heap.size; have := HTB0.out; omega) _
      refine (hg.block _ (by simp; omega) (fun e => by have := HVB.out _ e.symm; omega)).trans ?_
      exact blk_alloc (blk_new wr _) _)
     obtain ⟨⟨s0, sf0⟩, -⟩ := HT2.out.bxc hg HNBB.out
     obtain ⟨A1, c1, rfl⟩ := own_slice ho
     obtain ⟨wB, hwB⟩ : ∃ wB, w1.setCell ⟨w.heap.size, 1, none⟩ (.slice A1 (i + 1) c1) = wB := ⟨_, rfl⟩
     rw [hwB] at HTB HBW HRB
     clear ho hg hat HOWN HT2 HT1 HNBB HVB b1 evi evi2
     have hXK := HXR.out.1.1
     cases hq : okI (-x.f1) with
     | none =>
      have hF := HF.out
      change rL = ((okI (-x.f1)).bind fun y => _).bind _ at hF
      rw [hq, Option.bind_none, Option.bind_none] at hF
      have hX := HX.out
      rw [hF, Option.bind_none] at hX
      subst hX
      have HNG := Lib.hid (fun W => neg_no hXK (fun h => by rw [okI_is h] at hq; cases hq) W)
      have HC11 := Lib.hid (show Cells [(⟨w.heap.size, 4, none⟩, vl), (⟨wr.heap.size, 1, none⟩, .int .i64 x.f1)] wB from ⟨blk_cell HTB.out.box 4, blk_cell HRB.out 1, trivial⟩)
      clear hq hF
      go_wp2_with fail
      clear s0 sf0 hwB
      refine wp_region_L 16 (Hd _ w w.heap.size) Z2a0 (⟨Nat.le_refl _, HC11.out.keep (Below.refl _ _).drew, HBW.out.drew⟩) (fun hHeld => ?_)
      refine tl0.go ?_
      refine tl1.go ?_
      refine tl2.go ?_
      refine tl3.go ?_
      refine tl4.go ?_
      refine tl5.go ?_
      refine tl6.go ?_
      refine al7.ret (HNG.out _) (fun w2 hb2 hHeld => ?_); (try have HT := tab_keep HT hb2)
      refine tl8.go ?_
      refine tl9.go ?_
      refine wpAnyL_ready (rs := [10]) Z2a0 (by simp) (al10 (fun K hK => ?_) (AllReadyL.nil))
      focus go_simp
      ·refine (must64b_no _ _).mono ?_; rintro e w2 ⟨rfl, hb2⟩; exact ⟨rfl, rfl, (hHeld.keep hb2).below⟩
     | some nk =>
      obtain ⟨hnk, hnki⟩ := okI_some hq
      subst hnk
      have hF := HF.out
      change rL = ((okI (-x.f1)).bind fun y => (limF ((l.drop (i + 1)).map toZ)).bind fun t => some ((y : Rat) :: t)).bind _ at hF
      rw [hq, Option.bind_some] at hF
      have HNG := Lib.hid (fun W => neg_ok hXK hnki W)
      have HC11 := Lib.hid (show Cells [(⟨w.heap.size, 4, none⟩, vl), (⟨wr.heap.size, 1, none⟩, .int .i64 x.f1)] wB from ⟨blk_cell HTB.out.box 4, blk_cell HRB.out 1, trivial⟩)
      have HFL := Lib.hid hF
      obtain ⟨y, hy⟩ : ∃ y : Rat, ((-x.f1 : Int) : Rat) = y := ⟨_, rfl⟩
      rw [hy] at HFL
      have HWy := Lib.hid (fun W => wholey hy W)
      have HNL := Lib.hid (HTB.out.notb HTB.out.limits (by decide))
      have HT := Lib.hid (HTB.out.below (w1 := wB.drew) (Below.refl _ _).drew)
      have HRBd := Lib.hid (blk_drew HRB.out)
      clear hq hF hy HF
      go_wp2_with fail
      clear s0 sf0 hwB
      refine wp_region_L 16 (Hd _ w w.heap.size) Z2a0 (⟨Nat.le_refl _, HC11.out.keep (Below.refl _ _).drew, HBW.out.drew⟩) (fun hHeld => ?_)
      refine tl0.go ?_
      refine tl1.go ?_
      refine tl2.go ?_
      refine tl3.go ?_
      refine tl4.go ?_
      refine tl5.go ?_
      refine tl6.go ?_
      refine wpAnyL_ready (rs := [7]) Z2a0 (by simp) (al7 (fun K hK => ?_) (AllReadyL.nil))
      focus go_simp
      focus (refine (HNG.out _).mono ?_; rintro e w2 ⟨rfl, hb2⟩; have HT := tab_keep HT hb2; have HRBd := Lib.hid (blk_below HRBd.out hb2))
      focus try simp only []
      refine hK.out _ _ (fun _ => ?_) (fun hHeld => ?_)
      ·exact hHeld.keep hb2
      focus (have hHeld := hHeld (by decide); clear hK K; refine Zp2a ?_)
      refine tl8.go ?_
      refine tl9.go ?_
      refine wpAnyL_ready (rs := [10]) Z2a0 (by simp) (al10 (fun K hK => ?_) (AllReadyL.nil))
      focus go_simp
      focus (refine (must64b_ok _ _).mono ?_; rintro e w2 ⟨rfl, hb2⟩; have HT := tab_keep HT hb2; have HRBd := Lib.hid (blk_below HRBd.out hb2))
      focus try simp only []
      refine hK.out _ _ (fun _ => ?_) (fun hHeld => ?_)
      ·exact hHeld.keep hb2
      focus (have hHeld := hHeld (by decide); clear hK K; refine Zp2a ?_)
      refine wpAnyL_ready (rs := [11]) Z2a0 (by simp) (al11 (fun K hK => ?_) (AllReadyL.nil))
      focus go_simp
      focus (refine (HWy.out _).mono ?_; rintro e w2 ⟨rfl, hb2⟩; have HT := tab_keep HT hb2; have HRBd := Lib.hid (blk_below HRBd.out hb2); have HHW := Lib.hid (hHeld.keep hb2))
      focus try simp only []
      refine hK.out _ _ (fun _ => ?_) (fun hHeld => ?_)
      ·exact hHeld.keep hb2
      focus (have hHeld := hHeld (by decide); clear hK K; refine Zp2a ?_)
      refine wpAnyL_ready (rs := [12]) Z2a0 (by simp) (al12 (fun K hK => ?_) (AllReadyL.nil))
      focus go_simp
      refine hK.out _ _ (fun _ => ?_) (fun hHeld => ?_)
      ·exact hHeld.keep ((Below.refl _ _).alloc (Nat.le_refl _) _)
      focus (have hHeld := hHeld (by decide); clear hK K; refine Zp2a ?_)
      refine wpAnyL_ready (rs := [13]) Z2a0 (by simp) (al13 (fun K hK => ?_) (AllReadyL.nil))
      focus (refine step_append_cells (w0 := w) w.heap.size Z2a0 (.tmp 56) (.tmp 64) 26 28 (.agg #[.int .i64 0, .int .i64 0]) 2 16 rfl Tryz.underlying26 infoQ rfl (by decide) (by decide) vl i (flatQ lims) [.int .i64 y.num, .int .i64 y.den] rfl rfl rfl ?_ (lims_own HT.out HLL.out) ?_ ?_ ?_ ?_; rotate_left 4; intro v1 w1 ho hb1 hg hat; obtain ⟨A1, c1, rfl⟩ := own_slice ho)
      refine hK.out _ _ (fun _ => ?_) (fun hHeld => ?_)
      ·exact ⟨Nat.le_refl _, ⟨blk_cell (HT.out.bx hg HNL.out) 4, blk_cell ((hg.block _ (blk_lt HRBd.out) (fun e => by have := HVLm.out _ e.symm; omega)).trans HRBd.out) 1, trivial⟩, hb1⟩
      focus (have hHeld := hHeld (by decide); clear hK K; refine Zp2a ?_)
      refine tl14.go ?_
      refine tl15.go ?_
      refine wpAnyL_ready (rs := [16]) Z2a0 (by simp) (al16 (fun K hK => ?_) (AllReadyL.nil))
      focus ((obtain ⟨s0, sf0⟩ := (HT.out.bxc hg HNL.out).2.2.2; go_simp))
      refine hK.out _ _ (fun h => absurd rfl h) (fun _ => ?_)
      focus (clear hK K; refine Zp2a ?_)
      refine wpAnyL_done Z2a0 ?_ _; rotate_left 1
      ·intro u hu
       simp only [List.mem_cons, List.not_mem_nil, or_false] at hu
       rcases hu with rfl | rfl <;> rfl
      ·exact HHW.out.below
      ·exact HHW.out.size
      ·have := HNN.out; omega
      have HTL := Lib.hid (HT.out.appL (l := lims ++ [y]) hg (by
       unfold RowQ
       rw [List.length_append, HLL.out, flatQ_app]
       exact ho) hat)
      have HBL := Lib.hid (show Below w.heap.size w (w1.setCell ⟨w.heap.size, 4, none⟩ (.slice A1 (i + 1) c1)) from by
       refine Below.setCell hb1 ?_ _
       exact Nat.le_refl _)
      have HRL2 := Lib.hid (show (w1.setCell ⟨w.heap.size, 4, none⟩ (.slice A1 (i + 1) c1)).heap[wr.heap.size]? = some (.cells #[.slice A2 x.f0.length c2, .int .i64 x.f1] 40 (0, 0)) from
       blk_far ((hg.block _ (blk_lt HRBd.out) (fun e => by have := HVLm.out _ e.symm; omega)).trans HRBd.out) (p := ⟨w.heap.size, 4, none⟩) (by show wr.heap.size ≠ w.heap.size; have := HTB0.out; omega) _)
      generalize w1.setCell ⟨w.heap.size, 4, none⟩ (.slice A1 (i + 1) c1) = wL at HTL HBL HRL2 ⊢
      clear hg ho hb1 hat s0 sf0 hHeld HHW hb2 HT HRBd HTB HBW HRB HC11 HNG HWy HNL HVLm
      have HRep := Lib.hid (fun gx cx W x0 x1 => repeat_any j gx cx W (by have := HNN.out; omega) (by have := HNN.out; omega) x0 x1)
      go_wp2_with fail
      refine (whole_q 0 _).mono ?_
      rintro e wM ⟨rfl, hbM⟩
      have HTM := Lib.hid (HTL.out.below hbM)
      have HBM := Lib.hid (HBL.out.trans (hbM.mono HBL.out.size))
      have HRM := Lib.hid (blk_below HRL2.out hbM)
      clear hbM HTL HBL HRL2
      go_wp2_with fail
      refine (HRep.out _ _ _ (new2 _ _ _ _).1 (new2 _ _ _ _).2).mono ?_
      rintro e wP ⟨vrow, rfl, hrow, hbP⟩
      have hbP2 : Below wM.heap.size wM wP := ((Below.refl _ _).alloc (Nat.le_refl _) _).trans (hbP.mono (by simp))
      have hrow := own_less hrow (show wM.heap.size ≤ _ by simp)
      obtain ⟨gw, cw, ew, hgw, -, -, -, -⟩ := rowQ_rd (show RowQ wP wM.heap.size vrow (List.replicate j 0) from hrow) (i := 0) (by rw [List.length_replicate]; have := HNN.out; omega)
      rw [List.length_replicate] at ew
      subst ew
      have HROW := Lib.hid (show RowQ wP wM.heap.size (.slice (some ⟨gw, 0, none⟩) j cw) (List.replicate j 0) from hrow)
      have HBP := Lib.hid hbP2
      have r0 : wP.cell? ⟨wr.heap.size, 0, none⟩ = some (.slice A2 x.f0.length c2) := blk_cell (blk_below HRM.out hbP2) 0
      clear hbP hbP2 hrow
      go_wp2
      clear r0
      go_loopw [75] (fun v75 wz => ∃ k : Nat, k ≤ x.f0.length ∧ v75 = .int .i64 k ∧ RowQ wz wM.heap.size (.slice (some ⟨gw, 0, none⟩) j cw) ((x.f0.take k).map (fun c : Int => (c : Rat)) ++ List.replicate (j - k) 0) ∧ Below wM.heap.size wM wz) (fun v75 _ => x.f0.length - (intOf v75).toNat)
      case atStart => exact ⟨0, Nat.zero_le _, rfl, by simpa using HROW.out, HBP.out⟩
      case round =>
       obtain ⟨wq, hwq⟩ : ∃ wq, wq = wr := ⟨_, rfl⟩
       subst hwq
       obtain ⟨k, hk, rfl, hR, hbk⟩ := hrel
       by_cases hkl : k < x.f0.length
       ·obtain ⟨a2, e2, u0⟩ := el_I HC2.out hkl
        have hkN : k < j := by have := HNN.out; have := HXR.out.2; omega
        have hu := (HBM.out.trans (hbk.mono HBM.out.size)).cell (World.block_lt_of_cell? w _ u0) |>.trans u0
        have htk := List.take_succ_eq_append_getElem hkl
        obtain ⟨ck, hck⟩ : ∃ ck, x.f0[k] = ck := ⟨_, rfl⟩
        rw [hck] at hu htk
        obtain ⟨yk, hyk⟩ : ∃ yk : Rat, (ck : Rat) = yk := ⟨_, rfl⟩
        have HWk := Lib.hid (fun W => wholey hyk W)
        have HYK := Lib.hid hyk
        have HTKk := Lib.hid htk
        have HRk := Lib.hid hR
        have HBk := Lib.hid hbk
        have EWk := Lib.hid (wrapj (show k + 1 < 9223372036854775808 by have := HNN.out; omega))
        have hlen : ((x.f0.take k).map (fun c : Int => (c : Rat)) ++ List.replicate (j - k) 0).length = j := by
         rw [List.length_append, List.length_map, List.length_take, List.length_replicate]; omega
        have HLN := Lib.hid hlen
        subst e2
        clear u0 htk hck hyk hR hbk hlen
        go_wp2_with fail
        refine (HWk.out _).mono ?_
        rintro e w2 ⟨rfl, hb2⟩
        have HR2 := Lib.hid (HRk.out.below hb2)
        have HB2 := Lib.hid (HBk.out.trans (hb2.mono HBk.out.size))
        obtain ⟨p_, q_, s0, s1, sf0, sf1⟩ := rowQ_st HR2.out (i := k) (by rw [HLN.out]; exact hkN)
        have HR3 := Lib.hid (rowQ_set HR2.out k (by rw [HLN.out]; exact hkN) yk)
        have HB3 := Lib.hid (below_set2 (i := k * 2) (k := k * 2 + 1) (x := .int .i64 yk.num) (y := .int .i64 yk.den) HB2.out hgw)
        clear hb2 hu
        go_wp2
        refine ⟨⟨k + 1, hkl, congrArg (Value.int .i64) EWk.out, ?_, HB3.out⟩, ?_⟩
        ·have h := HR3.out
         have e : ((x.f0.take k).map (fun c : Int => (c : Rat)) ++ List.replicate (j - k) 0).set k yk = (x.f0.take (k + 1)).map (fun c : Int => (c : Rat)) ++ List.replicate (j - (k + 1)) 0 := by
          have hl : ((x.f0.take k).map (fun c : Int => (c : Rat))).length = k := by rw [List.length_map, List.length_take]; omega
          rw [HTKk.out, List.map_append, show j - k = (j - (k + 1)) + 1 by omega, List.replicate_succ]
          conv => lhs; rw [List.set_append_right _ _ (by omega), hl, Nat.sub_self, List.set_cons_zero]
          rw [List.append_assoc, ← HYK.out]; rfl
         rw [e] at h
         exact h
        ·rw [EWk.out]
         simp only [intOf, Int.toNat_natCast]
         exact meas_lt hkl
       ·obtain rfl : k = x.f0.length := by omega
        have hnx : (x.f0.take x.f0.length).map (fun c : Int => (c : Rat)) ++ List.replicate (j - x.f0.length) 0 = rowOf vars l.length x := by
         unfold rowOf
         rw [List.take_length, HNN.out.1]
        rw [hnx] at hR
        have HTq := Lib.hid (HTM.out.below hbk)
        have HBq := Lib.hid (HBM.out.trans (hbk.mono HBM.out.size))
        have HUV := Lib.hid (unlike_new HTM.out.value hR)
        have HUL := Lib.hid (unlike_new HTM.out.limits hR)
        have HUR := Lib.hid (fun j (hj : j < rs.length) => unlike_new (HTM.out.row j hj) hR)
        have hlow := own_less hR HBM.out.size
        have HRq := Lib.hid (show RowQ (wq.alloc (.cells #[.slice (some ⟨gw, 0, none⟩) j cw] 26)) w.heap.size (.slice (some ⟨gw, 0, none⟩) j cw) (rowOf vars l.length x) from RowQ.below hlow ((Below.refl _ _).alloc (Nat.le_refl _) _))
        have HT2 := Lib.hid (HTq.out.below (w1 := wq.alloc (.cells #[.slice (some ⟨gw, 0, none⟩) j cw] 26)) ((Below.refl _ _).alloc (Nat.le_refl _) _))
        have HNR := Lib.hid (HT2.out.notb HT2.out.rows (by decide))
        have k2 : wq.cell? ⟨w.heap.size, 2, none⟩ = some vr := blk_cell HTq.out.box 2
        clear hR hnx hlow hbk
        go_wp2_with (at_builtin; refine Hid.out ?_)
        refine Lib.hid ?_
        refine wpList_app rfl (.tmp 90) (.tmp 92) _ rfl w.heap.size 26 (.slice none 0 0) 1 24 Tryz.underlying70 infoS rfl (by decide) vr rs.length _ rfl HT2.out.rows ⟨wq.heap.size, 0, none⟩ 1 1 [.slice (some ⟨gw, 0, none⟩) j cw] rfl rfl ?_ ?_ ?_ ?_ ?_ ?_
        ·intro j_ u_ hu_
         match j_, hu_ with
         | 0, hu_ => cases hu_; rw [add_z]; exact blk_cell (blk_new _ _) 0
         | j_ + 1, hu_ => cases hu_
        ·intro u hu
         rw [List.mem_singleton.1 hu]; rfl
        ·have := HNN.out; have := HTq.out.len; simp at this; unfold maxLen; omega
        ·have := HNN.out; have := HTq.out.len; simp at this; omega
        ·have := HBq.out.size; simp; omega
        intro v1 w1 ho hg hat
        obtain ⟨⟨-, -⟩, ⟨s0, sf0⟩, -⟩ := HT2.out.bxc hg HNR.out
        have HTS := Lib.hid (HT2.out.appS HRq.out HUV.out HUL.out HUR.out hg (by
         unfold RowS
         rw [List.length_append]
         exact ho) hat)
        have HBS2 := Lib.hid (show Below w.heap.size w (w1.setCell ⟨w.heap.size, 2, none⟩ v1) from by
         refine Below.setCell ?_ ?_ _
         ·refine Below.grown (HBq.out.alloc HBq.out.size _) hg (by simp; have := HBq.out.size; omega) ?_
          intro k hk
          obtain ⟨_, _, h⟩ := own_blk_ty HT2.out.rows hk
          exact h
         ·exact Nat.le_refl _)
        obtain ⟨A3, c3, rfl⟩ := own_slice ho
        have hrw : (l.take (i + 1)).map (rowOf vars l.length) = (l.take i).map (rowOf vars l.length) ++ [rowOf vars l.length x] := by rw [HTK.out, List.map_append]; rfl
        have hts := HTS.out
        dsimp only at hts
        rw [← hrw] at hts
        have HTS := Lib.hid hts
        clear ho hg hat k2 HT2 HTq HRq hts hrw
        go_wp2
        refine ⟨⟨i + 1, _, _, _, _, lims ++ [y], hil, congrArg (Value.int .i64) EW.out, by rw [List.length_append, HLL.out]; rfl, ?_, HTS.out, HBS2.out⟩, ?_⟩
        ·rw [HFL.out]
         cases limF ((l.drop (i + 1)).map toZ) <;> simp
        ·rw [EW.out]
         simp only [intOf, Int.toNat_natCast]
         exact meas_lt hil
    ·obtain rfl : i = l.length := by omega
     rw [List.drop_length, List.map_nil, limF, Option.bind_some, List.append_nil] at hF
     have hX := HX.out
     rw [hF, Option.bind_some] at hX
     rw [List.take_length] at hT
     subst hX
     have HT := Lib.hid hT
     have HBR := Lib.hid hbr
     clear hT hbr hF
     go_wp2
     go_ret
     exact ⟨⟨_, _, _, _, _, _, rfl, HT.out⟩, HBR.out⟩
end Go.Proofs.YtbpjnkeilhfajaaGreat.Ln
