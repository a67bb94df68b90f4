/- ashlarlaw11.LinearWeights, walked. -/
import Derived.Test.YtdkbnbebioflaaaTl
import Derived.Test.YtdkbnbebioflaaaLnMore
import Derived.Test.YtdkbnbebioflaaaLinW
namespace Go.Proofs
theorem Zp2a {p q : Prop} (hq : q) (h : p = q := by first | (simp only [Act.put, List.setIfInBounds_toArray, List.set_cons_zero, List.set_cons_succ]; done) | (simp only [Act.put, List.setIfInBounds_toArray, List.set_cons_zero, List.set_cons_succ]; rfl) | rfl) : p := Eq.mpr h hq
theorem Z2a0 {p : Prop} (h : p := by first | exact Nat.le_refl _ | (simp; done) | (simp; omega) | omega) : p := h
theorem Z2a1 {p : Prop} (h : p := by kernel_rfl) : p := h
theorem Z2a2 {p : Prop} (h : p := by intro w_; go_simp; done) : p := h
theorem Z2a3 {p : Prop} (h : p := by have := HF.out; unfold maxLen; omega) : p := h
theorem Z2a4 {p : Prop} (h : p := by have := HF.out; omega) : p := h
theorem Z2a5 {p : Prop} (h : p := by exact hHeld.grownC HC3.out hg (fun k h => by cases h; exact HG0.out)) : p := h
theorem Z2a6 {p : Prop} (h : p := by exact hHeld.grownC HC3.out hg2 (fun k h => (HV1.out.lt k h).1)) : p := h
theorem Z2a7 {p : Prop} (h : p := by rw [List.length_append, List.length_singleton, Nat.zero_add]) : p := h
theorem Z2a8 {p : Prop} (h : p := by have := HW.out.1; unfold maxLen; omega) : p := h
theorem Z2a9 {p : Prop} (h : p := by simp; have := HB8.out.size; omega) : p := h
end Go.Proofs
namespace Go.Proofs.Ytdkbnbebioflaaa.Ln
open Go.RowKit Go.Proofs.Ytdkbnbebioflaaa.Num Go.Proofs.Ytdkbnbebioflaaa.Given Go.Proofs.Ytdkbnbebioflaaa.Lin Go.Proofs.YtdkbnbebioflaaaW.PrintWords
set_option linter.unusedVariables false
set_option linter.unusedSimpArgs false
theorem u8_at {w : World} {A : Option Addr} {l : List Int} (h : (Kd.int .u8).C w A l.length l) {i : Nat} (hi : i < l.length) : ∃ ad, A = some ad ∧ w.cell? (ad.add i) = some (.int .u8 l[i]) := by
 obtain ⟨ad, c, e, _, hK, hc0⟩ := Kd.C_get h (0 : Int) i (by omega) (by omega)
 obtain rfl : c = [.int .u8 (l.getD (i : Int).toNat 0)] := hK
 have := hc0 0 _ rfl
 rw [Int.toNat_natCast, show (Kd.int .u8).sz = 1 from rfl, Nat.mul_one, Nat.add_zero] at this
 exact ⟨ad, e, by rw [this]; simp [List.getElem?_eq_getElem hi]⟩
theorem unlike_grow {w : World} {b2 : Nat} {e2 : TypeId} {s2 n2 : Nat} {v v' u : Value} {x2 : List Value} (hu : Unlike v u) (h2 : w.ownsRow b2 e2 s2 u n2 x2) (hat : v'.ownBlock = v.ownBlock ∨ ∃ b, v'.ownBlock = some b ∧ w.heap.size ≤ b) : Unlike v' u := by
 intro k hk hk2
 rcases hat with h | ⟨b, h, hle⟩
 ·rw [h] at hk; exact hu k hk hk2
 ·rw [h] at hk
  obtain rfl := Option.some.inj hk
  have := (h2.lt b hk2).2
  omega
theorem unlike_ne {u v : Value} (h : Unlike u v) : v.ownBlock = none ∨ v.ownBlock ≠ u.ownBlock := by
 cases hv : v.ownBlock with
 | none => exact .inl rfl
 | some k => exact .inr fun e => h k e.symm hv
theorem unlike_comm {u v : Value} (h : Unlike u v) : Unlike v u := fun k h1 h2 => h k h2 h1
theorem intv_snoc (l : List Int) (x : Int) : intv (l ++ [x]) = intv l ++ [.int .i64 x] := by simp [intv]
theorem take_snoc {l : List Int} {i : Nat} (h : i < l.length) : l.take (i + 1) = l.take i ++ [l[i]] := by rw [List.take_add_one, List.getElem?_eq_getElem h]; rfl
theorem wpList_appRw {P : Program} {w : World} {ops : Array Oper} {rest : List Oper} {o : Oper} {a : Act} {Q : Exit → Act → World → Prop} (hw : Region.wanted o (yielded ops a.tmps) = true) (s x : Operand) (t : TypeId)
  (ho : o.op = .call { callee := .builtin .append, args := #[s, x], argTypes := #[t, t] })
  (base : Nat) (e : TypeId) (z : Value) (size bytes : Nat) (ht : P.underlying t = some (.slice e)) (hi : (P.info? e).map (fun i => (i.zero, i.size, i.bytes)) = some (some z, size, bytes)) (hzs : z.cells.size = size) (hsz : 0 < size)
  (v : Value) (n : Nat) (xs : List Value) (hs : a.eval s = v) (hown : w.ownsRow base e size v n xs)
  (A : Option Addr) (m c : Nat) (news : List Value) (hx : a.eval x = .slice A m c) (hr : Raw w A m size news)
  (h63 : n + m ≤ maxLen) (hbytes : (n + m) * bytes ≤ 140737488355328) (hbase : base ≤ w.heap.size)
  (h : ∀ v' w', Hid (w'.ownsRow base e size v' (n + m) (xs ++ news)) → w.grownBy w' v.ownBlock → wpList P ops Q rest (a.put o.dst v') w') : wpList P ops Q (o :: rest) a w := by
 refine wpList_step fun K hK => ?_
 rw [if_pos hw]
 exact wp_appR s x t ho base e z size bytes ht hi hzs hsz v n xs hs hown A m c news hx hr h63 hbytes hbase fun v' w' h1 h2 => hK _ _ (h v' w' h1 h2)
theorem cells_grown {w w1 W : World} {row : Option Nat} (hg : w.grownBy w1 row) (hb : ∀ k, row = some k → W.heap.size ≤ k) (hbel : Below W.heap.size W w) : ∀ {l : List (Addr × Value)}, Cells l W → Cells l w → Cells l w1
 | [], _, _ => trivial
 | (a, v) :: l, hW, h => by
  have hlt := World.block_lt_of_cell? W _ hW.1
  refine ⟨?_, cells_grown hg hb hbel hW.2 h.2⟩
  have hbl : w1.heap[a.block]? = w.heap[a.block]? := hg.block a.block (Nat.lt_of_lt_of_le hlt hbel.size) (fun e => by have := hb _ e.symm; omega)
  rw [World.cell?_of_block hbl]; exact h.1
theorem Hd.grownC {l : List (Addr × Value)} {W w w1 : World} {row : Option Nat} (h : Hd l W W.heap.size w) (hW : Cells l W) (hg : w.grownBy w1 row) (hb : ∀ k, row = some k → W.heap.size ≤ k) : Hd l W W.heap.size w1 :=
 ⟨h.le, cells_grown hg hb h.below hW h.cells, h.below.grown hg h.size hb⟩
def lgc (c : Int) : Bool := decide (1099511627776 < c) || decide (c < -1099511627776)
def lgR (r : S38) : Bool := lgc r.f1 || r.f0.any lgc
def lgL (l : List S38) : Bool := l.any lgR
theorem lgL_snoc (l : List S38) (r : S38) : lgL (l ++ [r]) = (lgL l || lgR r) := by simp [lgL]
theorem any_snoc (l : List Int) (c : Int) : (l ++ [c]).any lgc = (l.any lgc || lgc c) := by simp
theorem takeR_snoc {l : List S38} {i : Nat} (h : i < l.length) : l.take (i + 1) = l.take i ++ [l[i]] := by rw [List.take_add_one, List.getElem?_eq_getElem h]; rfl
theorem i64_at {w : World} {A : Option Addr} {l : List Int} (h : (Kd.int .i64).C w A l.length l) {i : Nat} (hi : i < l.length) : ∃ ad, A = some ad ∧ w.cell? (ad.add i) = some (.int .i64 l[i]) := by
 obtain ⟨ad, c, e, _, hK, hc0⟩ := Kd.C_get h (0 : Int) i (by omega) (by omega)
 obtain rfl : c = [.int .i64 (l.getD (i : Int).toNat 0)] := hK
 have := hc0 0 _ rfl
 rw [Int.toNat_natCast, show (Kd.int .i64).sz = 1 from rfl, Nat.mul_one, Nat.add_zero] at this
 exact ⟨ad, e, by rw [this]; simp [List.getElem?_eq_getElem hi]⟩
theorem row_at {w : World} {A : Option Addr} {l : List S38} (h : Kd.C k38 w A l.length l) {i : Nat} (hi : i < l.length) : ∃ ad A0 c0, A = some ad ∧ w.cell? (ad.add (i * 2)) = some (.slice A0 l[i].f0.length c0) ∧ w.cell? ⟨(ad.add (i * 2)).block, (ad.add (i * 2)).off + 1, none⟩ = some (.int .i64 l[i].f1) ∧ l[i].f0.length ≤ c0 ∧ (Kd.int .i64).C w A0 l[i].f0.length l[i].f0 := by
 obtain ⟨ad, A0, c0, e, q0, q1, h1, h2⟩ := at_T38 h (i : Int) (by omega) (by omega)
 have er : rd_T38 l (i : Int) = l[i] := by simp [rd_T38, List.getElem?_eq_getElem hi]
 rw [er, Int.toNat_natCast] at q0 q1
 rw [er] at h1 h2
 exact ⟨ad, A0, c0, e, q0, q1, h1, h2⟩
set_option maxHeartbeats 64000000 in
set_option maxRecDepth 100000 in
theorem LinearWeights_any (l : List S38) (A : Option Addr) (c : Nat) (ws : List Int) (A' : Option Addr) (c' : Nat) (r : S38) (A2 : Option Addr) (c2 : Nat) (w : World) (hC : Kd.C k38 w A l.length l) (hc : l.length ≤ c) (hCw : (Kd.int .u8).C w A' ws.length ws) (hcw : ws.length ≤ c')
  (hCr : (Kd.int .i64).C w A2 r.f0.length r.f0) (hcr : r.f0.length ≤ c2) (hin : ∀ x, x ∈ l → RowIn x) (hr : RowIn r) (hws : ∀ x, x ∈ ws → 0 ≤ x ∧ x ≤ 255) :
  Calls Try.prog 5 #[.slice A l.length c, .slice A' ws.length c', .agg #[.slice A2 r.f0.length c2, .int .i64 r.f1]] w fun e w' => e = .returned (.bool true) ∧ Below w.heap.size w w' := by
 have HC := Lib.hid hC
 have HCC := Lib.hid hc
 have HCW := Lib.hid hCw
 have HIN := Lib.hid (And.intro hin (And.intro hr hws))
 clear hC hc hCw hcw hin hr hws hCr
 go_enter Try.func5, Try.ntmps5
 go_wp2_with fail
 refine (shown_any _).mono ?_
 rintro e w1 ⟨rfl, hb1⟩
 have hz1 := hb1.size
 simp at hz1
 have hbx : w1.heap[w.heap.size]? = some (.cells #[.slice A2 r.f0.length c2, .int .i64 r.f1] 38 (0, 0)) := blk_below (blk_new w _) hb1
 have HB := Lib.hid (show Below w.heap.size w w1 by refine Below.trans ?_ (hb1.mono Z2a0); exact (by repeat (first | exact Below.refl _ _ | with_reducible assumption | refine Below.alloc ?_ Z2a0 _ | refine Below.setCell ?_ Z2a0 _ | refine Below.drew ?_ | refine bdrewN ?_ _)))
 have HBX := Lib.hid hbx
 clear hb1 hbx hz1
 go_wp2_with fail
 refine (few_any (Kd.C_below HC.out HB.out) HCC.out).mono ?_
 rintro e w2 ⟨⟨A1, c1, rfl, hS⟩, hb1⟩
 have HF := Lib.hid (fewL_len l)
 have HFI := Lib.hid (rowIn_few HIN.out.1)
 obtain ⟨m, hm⟩ : ∃ m, fewL l = m := ⟨_, rfl⟩
 rw [hm] at hS HF HFI ⊢
 have HB := Lib.hid (HB.out.trans (hb1.mono HB.out.size))
 have HBX := Lib.hid (blk_below HBX.out hb1)
 have HC1 := Lib.hid (Kd.S_reads' hS).2
 have HCW := Lib.hid (Kd.C_below HCW.out HB.out)
 clear hb1 hS hm HC HCC
 go_wp2_with fail
 go_loopw [8, 9, 10] (fun v8 v9 v10 wr => ∃ i : Nat, i ≤ min ws.length 30 ∧ v10 = .int .i64 i ∧ RowI wr w2.heap.size v8 (ws.take i) ∧ RowI wr w2.heap.size v9 ((ws.take i).map (2 * ·)) ∧ Unlike v8 v9 ∧ Below w2.heap.size w2 wr) (fun _ _ v10 _ => min ws.length 30 - (intOf v10).toNat)
 case atStart => exact ⟨0, Nat.zero_le _, rfl, nilI _ _, nilI _ _, (fun k h => by cases h), Below.refl _ _⟩
 case round =>
  obtain ⟨i, hi, rfl, h8, h9, hun, hbr⟩ := hrel
  by_cases h1 : i < min ws.length 30
  ·have hil : i < ws.length := by omega
   have e1 : ((i : Int) < (ws.length : Int)) = True := eq_true (by omega)
   have e2 : ((i : Int) < 30) = True := eq_true (by omega)
   obtain ⟨ad, rfl, hcell0⟩ := u8_at HCW.out hil
   have hx := HIN.out.2.2 _ (List.getElem_mem hil)
   have hsn := take_snoc hil
   obtain ⟨x, hxe⟩ : ∃ x, ws[i] = x := ⟨_, rfl⟩
   rw [hxe] at hcell0 hx hsn
   clear hxe
   have HCELL := Lib.hid hcell0
   have hcell := kcell hbr hcell0
   clear hcell0
   have ewx : wrap64 x = x := wrap64_in ⟨by omega, by omega⟩
   have HX := Lib.hid (And.intro hx hsn)
   have H8 := Lib.hid h8
   have H9 := Lib.hid h9
   have HUN := Lib.hid hun
   have HBR := Lib.hid hbr
   have HI := Lib.hid (And.intro hi (And.intro h1 hil))
   clear hi h1 hil h8 h9 hun hbr hx hsn
   go_wp2_with (at_builtin; refine Hid.out ?_)
   refine Lib.hid ?_
   have H8a := own_keepB H8 (w1 := wr.alloc (.cells #[.int .i64 x] 2)) ((Below.refl _ _).alloc (Nat.le_refl _) _)
   have H9a := own_keepB H9 (w1 := wr.alloc (.cells #[.int .i64 x] 2)) ((Below.refl _ _).alloc (Nat.le_refl _) _)
   have HIL := Lib.hid (show (ws.take i).length = i ∧ ((ws.take i).map (2 * ·)).length = i ∧ i < 30 by have := HI.out; rw [List.length_map, List.length_take]; omega)
   have HSZ := Lib.hid (show w2.heap.size ≤ wr.heap.size + 1 from Nat.le_succ_of_le HBR.out.size)
   refine wpList_app rfl (.tmp 28) (.tmp 34) _ rfl w2.heap.size 2 (.int .i64 0) 1 8 Try.underlying33 infoI rfl (by decide) _ i (intv (ws.take i)) rfl (RowI.at H8a.out HIL.out.1) ⟨wr.heap.size, 0, none⟩ 1 1 [.int .i64 x] rfl rfl ?_ ?_ ?_ ?_ ?_ ?_
   ·intro j_ u_ hu_
    match j_, hu_ with
    | 0, hu_ => cases hu_; rw [add_z]; exact blk_cell (blk_new _ _) 0
    | j_ + 1, hu_ => cases hu_
   ·intro u hu
    rw [List.mem_singleton.1 hu]; rfl
   ·have := HIL.out; unfold maxLen; omega
   ·have := HIL.out; omega
   ·simp; exact HSZ.out
   intro v8 w3 ho8 hg8 hat8
   have H9b := Lib.hid (H9a.out.kept hg8 (unlike_ne HUN.out))
   have HUN := Lib.hid (unlike_grow HUN.out H9a.out hat8)
   have HBR := Lib.hid (show Below w2.heap.size w2 w3 from Below.grown (HBR.out.alloc HBR.out.size _) hg8 (by simp; exact HSZ.out) (fun k hk => (H8.out.lt k hk).1))
   have H8 := Lib.hid ho8
   have hcell := kcell HBR.out HCELL.out
   have ewx2 : wrap64 (2 * x) = 2 * x := wrap64_in ⟨by have := HX.out.1; omega, by have := HX.out.1; omega⟩
   clear ho8 hg8 hat8 H8a H9a
   go_wp2_with (at_builtin; refine Hid.out ?_)
   refine Lib.hid ?_
   have H8a := own_keepB H8 (w1 := w3.alloc (.cells #[.int .i64 (2 * x)] 2)) ((Below.refl _ _).alloc (Nat.le_refl _) _)
   have H9a := own_keepB H9b (w1 := w3.alloc (.cells #[.int .i64 (2 * x)] 2)) ((Below.refl _ _).alloc (Nat.le_refl _) _)
   have HSZ := Lib.hid (show w2.heap.size ≤ w3.heap.size + 1 from Nat.le_succ_of_le HBR.out.size)
   refine wpList_app rfl (.tmp 36) (.tmp 43) _ rfl w2.heap.size 2 (.int .i64 0) 1 8 Try.underlying33 infoI rfl (by decide) _ i (intv ((ws.take i).map (2 * ·))) rfl (RowI.at H9a.out HIL.out.2.1) ⟨w3.heap.size, 0, none⟩ 1 1 [.int .i64 (2 * x)] rfl rfl ?_ ?_ ?_ ?_ ?_ ?_
   ·intro j_ u_ hu_
    match j_, hu_ with
    | 0, hu_ => cases hu_; rw [add_z]; exact blk_cell (blk_new _ _) 0
    | j_ + 1, hu_ => cases hu_
   ·intro u hu
    rw [List.mem_singleton.1 hu]; rfl
   ·have := HIL.out; unfold maxLen; omega
   ·have := HIL.out; omega
   ·simp; exact HSZ.out
   intro v9 w4 ho9 hg9 hat9
   have H8b := Lib.hid (H8a.out.kept hg9 (unlike_ne (unlike_comm HUN.out)))
   have HUN := Lib.hid (unlike_comm (unlike_grow (unlike_comm HUN.out) H8a.out hat9))
   have HBR := Lib.hid (show Below w2.heap.size w2 w4 from Below.grown (HBR.out.alloc HBR.out.size _) hg9 (by simp; exact HSZ.out) (fun k hk => (H9b.out.lt k hk).1))
   have H9 := Lib.hid ho9
   clear ho9 hg9 hat9 H8a H9a ewx ewx2 hcell e1 e2
   have EW := Lib.hid (wrapj (show i + 1 < 9223372036854775808 by have := HIL.out; omega))
   go_wp2
   refine ⟨⟨i + 1, HI.out.2.1, congrArg (Value.int .i64) EW.out, ?_, ?_, HUN.out, HBR.out⟩, ?_⟩
   ·unfold RowI
    rw [HX.out.2, List.length_append, HIL.out.1, intv_snoc]
    exact H8b.out
   ·unfold RowI
    rw [HX.out.2, List.map_append, List.length_append, HIL.out.2.1, List.map_singleton, intv_snoc]
    exact H9.out
   ·rw [EW.out]
    simp only [intOf, Int.toNat_natCast]
    exact meas_lt HI.out.2.1
  ·obtain ⟨W1, hW1⟩ : ∃ W1, ws.take i = W1 := ⟨_, rfl⟩
   have hWl : W1.length ≤ 30 := by rw [← hW1, List.length_take]; omega
   have hWb : ∀ x, x ∈ W1 → 0 ≤ x ∧ x ≤ 255 := by rw [← hW1]; exact fun x hx => HIN.out.2.2 x (List.mem_of_mem_take hx)
   rw [hW1] at h8 h9
   obtain ⟨A8, c8, rfl, hc8, hC8⟩ := Kd.R_reads (RowI.toR h8)
   obtain ⟨A9, c9, rfl, hc9, hC9⟩ := Kd.R_reads (RowI.toR h9)
   obtain ⟨W2, hW2⟩ : ∃ W2, W1.map (2 * ·) = W2 := ⟨_, rfl⟩
   rw [hW2] at hc9 hC9 ⊢
   have hWin : ∀ x, x ∈ W1 → In64 x := fun x hx => by have := hWb x hx; exact ⟨by omega, by omega⟩
   have hWin2 : ∀ x, x ∈ W2 → In64 x := by
    rw [← hW2]
    intro x hx
    obtain ⟨y, hy, rfl⟩ := List.mem_map.1 hx
    have := hWb y hy
    exact ⟨by omega, by omega⟩
   have HW := Lib.hid (And.intro hWl (And.intro hWb (And.intro hWin (And.intro hWin2 hW2))))
   have HB := Lib.hid (HB.out.trans (hbr.mono HB.out.size))
   have HBX := Lib.hid (blk_below HBX.out hbr)
   have HC1 := Lib.hid (And.intro HC1.out.1 (Kd.C_below HC1.out.2 hbr))
   have HC8 := Lib.hid (And.intro hC8 (And.intro hc8 (And.intro hC9 hc9)))
   obtain ⟨b, hb⟩ : ∃ b, chkF m W1 = b := ⟨_, rfl⟩
   have HCF := Lib.hid hb
   have hex : (((i : Int) < (ws.length : Int)) = True ∧ ((i : Int) < 30) = False) ∨ ((i : Int) < (ws.length : Int)) = False := by
    by_cases h : i < ws.length
    ·exact .inl ⟨eq_true (by omega), eq_false (by omega)⟩
    ·exact .inr (eq_false (by omega))
   clear hi h1 hW1 hWl hWb h8 h9 hc8 hC8 hc9 hC9 hW2 hWin hWin2 hbr hun hb HCW
   rcases hex with ⟨e1, e2⟩ | e1
   all_goals
    go_wp2_with fail
    refine (CheckFarkas_any m W1 A1 A8 c1 c8 _ HC1.out.2 HC1.out.1 HC8.out.1 HC8.out.2.1 HFI.out HW.out.2.2.1).mono ?_
    rintro e w5 ⟨rfl, hb1⟩
    have HB := Lib.hid (HB.out.trans (hb1.mono HB.out.size))
    have HBX := Lib.hid (blk_below HBX.out hb1)
    have HC1 := Lib.hid (And.intro HC1.out.1 (Kd.C_below HC1.out.2 hb1))
    have HC8 := Lib.hid (And.intro (Kd.C_below HC8.out.1 hb1) (And.intro HC8.out.2.1 (And.intro (Kd.C_below HC8.out.2.2.1 hb1) HC8.out.2.2.2)))
    clear hb1 e1
    try clear e2
    rw [HCF.out]
    cases b with
    | false =>
     go_wp2
     go_ret
     exact ⟨rfl, HB.out⟩
    | true =>
     go_wp2
     go_loopw [11, 12] (fun v11 v12 wz => ∃ j : Nat, j ≤ m.length ∧ v11 = .bool (lgL (m.take j)) ∧ v12 = .int .i64 j ∧ wz = w5) (fun _ v12 _ => m.length - (intOf v12).toNat)
     case atStart => exact ⟨0, Nat.zero_le _, rfl, rfl, rfl⟩
     case round =>
      obtain ⟨j, hj, rfl, rfl, rfl⟩ := hrel
      by_cases hjl : j < m.length
      ·have e1 : ((j : Int) < (m.length : Int)) = True := eq_true (by omega)
       obtain ⟨ad, A0, c0, rfl, q0, q1, hc0, hC0⟩ := row_at HC1.out.2 hjl
       have hsn := takeR_snoc hjl
       obtain ⟨x, hx⟩ : ∃ x, m[j] = x := ⟨_, rfl⟩
       rw [hx] at q0 q1 hc0 hC0 hsn
       clear hx hc0
       have HCX := Lib.hid hC0
       have HSN := Lib.hid (And.intro hsn (And.intro hj hjl))
       obtain ⟨B0, hB0⟩ : ∃ B0, lgL (m.take j) = B0 := ⟨_, rfl⟩
       rw [hB0]
       have hlj : j < 9223372036854775807 := by have := HF.out; omega
       have EW := Lib.hid (wrapj (show j + 1 < 9223372036854775808 by omega))
       clear hC0 hsn hj hjl hlj
       have hcs : (B0 = true) ∨ (B0 = false ∧ ((1099511627776 : Int) < x.f1) = True ∧ lgc x.f1 = true) ∨ (B0 = false ∧ ((1099511627776 : Int) < x.f1) = False ∧ (x.f1 < (-1099511627776 : Int)) = True ∧ lgc x.f1 = true) ∨ (B0 = false ∧ ((1099511627776 : Int) < x.f1) = False ∧ (x.f1 < (-1099511627776 : Int)) = False ∧ lgc x.f1 = false) := by
        unfold lgc
        cases B0 with
        | true => exact .inl rfl
        | false =>
         by_cases h1 : (1099511627776 : Int) < x.f1
         ·exact .inr (.inl ⟨rfl, eq_true h1, by simp [h1]⟩)
         ·by_cases h2 : x.f1 < (-1099511627776 : Int)
          ·exact .inr (.inr (.inl ⟨rfl, eq_false h1, eq_true h2, by simp [h2]⟩))
          ·exact .inr (.inr (.inr ⟨rfl, eq_false h1, eq_false h2, by simp [h1, h2]⟩))
       obtain ⟨B1, hB1⟩ : ∃ B1, (B0 || lgc x.f1) = B1 := ⟨_, rfl⟩
       rcases hcs with rfl | ⟨rfl, k1, k3⟩ | ⟨rfl, k1, k2, k3⟩ | ⟨rfl, k1, k2, k3⟩
       all_goals
        (try rw [k3] at hB1)
        simp only [Bool.true_or, Bool.false_or] at hB1
        subst hB1
        (try have K3 := Lib.hid k3)
        (try clear k3)
        have HB0 := Lib.hid hB0
        clear hB0
        go_wp2
        (try clear k1)
        (try clear k2)
        obtain ⟨wo, hwo⟩ : ∃ wo, wo = wr := ⟨_, rfl⟩
        subst hwo
        go_loopw [11, 13] (fun v11 v13 wz => ∃ k : Nat, k ≤ x.f0.length ∧ v11 = .bool (lgL (m.take j) || lgc x.f1 || (x.f0.take k).any lgc) ∧ v13 = .int .i64 k ∧ wz = wo) (fun _ v13 _ => x.f0.length - (intOf v13).toNat)
        case atStart => exact ⟨0, Nat.zero_le _, congrArg Value.bool (by rw [HB0.out, List.take_zero]; first | (simp; done) | (rw [K3.out]; simp; done)), rfl, rfl⟩
        case round =>
         obtain ⟨k, hk, rfl, rfl, rfl⟩ := hrel
         by_cases hkl : k < x.f0.length
         ·have e3 : ((k : Int) < (x.f0.length : Int)) = True := eq_true (by omega)
          obtain ⟨ad0, rfl, p0⟩ := i64_at HCX.out hkl
          have hsn := take_snoc hkl
          have hk63 : k < 9223372036854775807 := by have := Kd.C_max HCX.out; omega
          obtain ⟨y, hy⟩ : ∃ y, x.f0[k] = y := ⟨_, rfl⟩
          rw [hy] at p0 hsn
          clear hy
          have HK := Lib.hid (And.intro hk (And.intro hkl hsn))
          have EW2 := Lib.hid (wrapj (show k + 1 < 9223372036854775808 by omega))
          obtain ⟨B2, hB2⟩ : ∃ B2, (lgL (m.take j) || lgc x.f1 || (x.f0.take k).any lgc) = B2 := ⟨_, rfl⟩
          rw [hB2]
          have HB2 := Lib.hid hB2
          clear hk hkl hsn hB2 hk63
          have hcs : (B2 = true) ∨ (B2 = false ∧ ((1099511627776 : Int) < y) = True ∧ lgc y = true) ∨ (B2 = false ∧ ((1099511627776 : Int) < y) = False ∧ (y < (-1099511627776 : Int)) = True ∧ lgc y = true) ∨ (B2 = false ∧ ((1099511627776 : Int) < y) = False ∧ (y < (-1099511627776 : Int)) = False ∧ lgc y = false) := by
           unfold lgc
           cases B2 with
           | true => exact .inl rfl
           | false =>
            by_cases h1 : (1099511627776 : Int) < y
            ·exact .inr (.inl ⟨rfl, eq_true h1, by simp [h1]⟩)
            ·by_cases h2 : y < (-1099511627776 : Int)
             ·exact .inr (.inr (.inl ⟨rfl, eq_false h1, eq_true h2, by simp [h2]⟩))
             ·exact .inr (.inr (.inr ⟨rfl, eq_false h1, eq_false h2, by simp [h1, h2]⟩))
          rcases hcs with rfl | ⟨rfl, k1, k3⟩ | ⟨rfl, k1, k2, k3⟩ | ⟨rfl, k1, k2, k3⟩
          all_goals
           (try have K4 := Lib.hid k3)
           (try clear k3)
           go_wp2
           refine ⟨⟨k + 1, HK.out.2.1, congrArg Value.bool ?_, congrArg (Value.int .i64) EW2.out, trivial⟩, ?_⟩
           ·rw [HK.out.2.2, any_snoc, ← Bool.or_assoc, HB2.out]
            first
            | (simp; done)
            | (rw [K4.out]; rfl)
           ·rw [EW2.out]
            simp only [intOf, Int.toNat_natCast]
            exact meas_lt HK.out.2.1
         ·have e3 : ((k : Int) < (x.f0.length : Int)) = False := eq_false (by omega)
          have hke : x.f0.take k = x.f0 := List.take_of_length_le (by omega)
          rw [hke]
          clear hke hk hkl
          go_wp2
          refine ⟨⟨j + 1, HSN.out.2.2, congrArg Value.bool ?_, congrArg (Value.int .i64) EW.out, trivial⟩, ?_⟩
          ·rw [HSN.out.1, lgL_snoc, lgR, Bool.or_assoc]
          ·rw [EW.out]
           simp only [intOf, Int.toNat_natCast]
           exact meas_lt HSN.out.2.2
      ·have e1 : ((j : Int) < (m.length : Int)) = False := eq_false (by omega)
       have hje : m.take j = m := List.take_of_length_le (by omega)
       rw [hje]
       clear hje hj hjl
       obtain ⟨wq, hwq⟩ : ∃ wq, wq = wr := ⟨_, rfl⟩
       subst hwq
       have hcf := HCF.out
       rw [chkF_is] at hcf
       have hz : m.map toZ ≠ [] := ((farkas_iff _ _).1 hcf).2.2.1
       have hm0 : 0 < m.length := by
        rcases Nat.eq_zero_or_pos m.length with h | h
        ·exact (hz (by rw [List.eq_nil_of_length_eq_zero h]; rfl)).elim
        ·exact h
       obtain ⟨ad, A0, c0, rfl, q0, q1, hc0, hC0⟩ := row_at HC1.out.2 hm0
       obtain ⟨x0, hx0⟩ : ∃ x0, m[0] = x0 := ⟨_, rfl⟩
       rw [hx0, Nat.zero_mul, Addr.add_zero'] at q0
       rw [hx0] at hc0 hC0
       have hmx : ∃ m', m = x0 :: m' := by
        cases m with
        | nil => exact absurd hm0 (Nat.lt_irrefl 0)
        | cons a m' => exact ⟨m', by rw [← hx0]; rfl⟩
       have HMX := Lib.hid (And.intro hmx hcf)
       obtain ⟨news, hraw, henc⟩ := raw_of row_one HC1.out.2 (by decide)
       have HRW := Lib.hid hraw
       have HEN := Lib.hid (And.intro henc (And.intro hc0 hC0))
       have hcells : Cells [(ad, .slice A0 x0.f0.length c0), (⟨w.heap.size, 1, none⟩, .int .i64 r.f1)] wq := ⟨q0, blk_cell HBX.out 1, trivial⟩
       have HC3 := Lib.hid hcells
       have hm0' : (0 < m.length) = True := eq_true hm0
       clear q0 q1 hx0 hmx hcf hz hm0 hraw henc hc0 hC0 hcells
       go_wp2_with fail
       clear e1
       apply share4 (fun u w5 => Hid (w5.ownsRow wq.heap.size 38 2 u (0 + m.length + 1) ([] ++ news ++ [.slice A0 x0.f0.length c0, .int .i64 r.f1])) ∧ Below wq.heap.size wq w5)
       ·intro hΦ
        have HΦ := Lib.hid hΦ
        clear hΦ
        refine wp_region_L 12 (Hd _ wq wq.heap.size) Z2a1 (⟨Nat.le_refl _, HC3.out.keep (Below.refl _ _).drew, (Below.refl _ _).drew⟩) (fun hHeld => ?_)
        refine tl1.go ?_
        refine tl3.go ?_
        refine tl4.go ?_
        refine tl5.go ?_
        refine tl6.go ?_
        refine tl7.go ?_
        refine tl8.go ?_
        refine tl9.go ?_
        refine wpAnyL_ready (rs := [0, 10]) Z2a1 (by simp) (al0 (fun K hK => ?_) (al10 (fun K hK => ?_) (AllReadyL.nil)))
        focus (refine sl_newh (.cells #[] 38) 0 Z2a1 Z2a2 (fun g0_ w2 hg0_ hb2 HP0 => ?_); have HG0 := Lib.hid (Nat.le_trans hHeld.size (Nat.le_of_eq hg0_.out.symm)); have HR0 := own_none (w := wq) (size := 2) HP0 HG0.out; (try have HNE := Lib.hid (show g4_ ≠ g0_ by have := hg0_.out; have := HPX.out.2; omega)); (try have HPX := hp_keep HPX hb2))
        refine hK.out _ _ (fun _ => ?_) (fun hHeld => ?_)
        ·exact hHeld.keep hb2
        focus (have hHeld := hHeld (by decide); clear hK K; refine Zp2a ?_)
        refine wpAnyL_ready (rs := [2, 10]) Z2a1 (by simp) (al2 (fun K hK => ?_) (al10 (fun K hK => ?_) (AllReadyL.nil)))
        focus (refine step_appR rfl (.tmp 106) (.tmp 107) _ rfl wq.heap.size 38 (.agg #[.slice none 0 0, .int .i64 0]) 2 32 Try.underlying22 infoRow rfl (by decide) _ 0 [] rfl HR0.out (some ad) m.length c1 news rfl (HRW.out.below hHeld.below) Z2a3 Z2a4 hHeld.size ?_; intro v1_ w4_ HV1 hg; (try have HPX := hp_grown HPX hg (fun h => HNE.out (Option.some.inj h).symm)))
        refine hK.out _ _ (fun _ => ?_) (fun hHeld => ?_)
        ·exact Z2a5
        focus (have hHeld := hHeld (by decide); clear hK K; refine Zp2a ?_)
        refine wpAnyL_ready (rs := [10]) Z2a1 (by simp) (al10 (fun K hK => ?_) (AllReadyL.nil))
        focus (refine sl_newh (.cells #[.slice A0 x0.f0.length c0, .int .i64 r.f1] 38) 1 Z2a1 Z2a2 (fun g4_ w2 hg4_ hb2 HPX => ?_); (try have HNE := Lib.hid (show g4_ ≠ g0_ by have := hg4_.out; have := HP0.out.2; omega)); (try have HR0 := own_keepB HR0 hb2); (try have HV1 := own_keepB HV1 hb2); (try have HP0 := hp_keep HP0 hb2))
        refine hK.out _ _ (fun _ => ?_) (fun hHeld => ?_)
        ·exact hHeld.keep hb2
        focus (have hHeld := hHeld (by decide); clear hK K; refine Zp2a ?_)
        refine wpAnyL_ready (rs := [11]) Z2a1 (by simp) (al11 (fun K hK => ?_) (AllReadyL.nil))
        focus (refine step_appR rfl (.tmp 108) (.tmp 116) _ rfl wq.heap.size 38 (.agg #[.slice none 0 0, .int .i64 0]) 2 32 Try.underlying22 infoRow rfl (by decide) _ (0 + m.length) ([] ++ news) rfl HV1.out (some ⟨g4_, 0, none⟩) 1 1 [.slice A0 x0.f0.length c0, .int .i64 r.f1] rfl (raw_lit HPX rfl rfl) Z2a3 Z2a4 hHeld.size ?_; intro v2_ w5_ HV2 hg2)
        refine hK.out _ _ (fun _ => ?_) (fun hHeld => ?_)
        ·exact Z2a6
        focus (have hHeld := hHeld (by decide); clear hK K; refine Zp2a ?_)
        refine wpAnyL_ready (rs := [12]) Z2a1 (by simp) (al12 (fun K hK => ?_) (AllReadyL.nil))
        focus go_simp
        refine hK.out _ _ (fun h => absurd rfl h) (fun _ => ?_)
        focus (clear hK K; refine Zp2a ?_)
        refine wpAnyL_done Z2a1 ?_ _; rotate_left 1
        focus (refine sl_newh (.cells #[.slice A0 x0.f0.length c0, .int .i64 r.f1] 38) 1 Z2a1 Z2a2 (fun g4_ w2 hg4_ hb2 HPX => ?_); (try have HNE := Lib.hid (show g4_ ≠ g0_ by have := hg4_.out; have := HP0.out.2; omega)); (try have HR0 := own_keepB HR0 hb2); (try have HV1 := own_keepB HV1 hb2); (try have HP0 := hp_keep HP0 hb2))
        refine hK.out _ _ (fun _ => ?_) (fun hHeld => ?_)
        ·exact hHeld.keep hb2
        focus (have hHeld := hHeld (by decide); clear hK K; refine Zp2a ?_)
        refine wpAnyL_ready (rs := [2]) Z2a1 (by simp) (al2 (fun K hK => ?_) (AllReadyL.nil))
        focus (refine step_appR rfl (.tmp 106) (.tmp 107) _ rfl wq.heap.size 38 (.agg #[.slice none 0 0, .int .i64 0]) 2 32 Try.underlying22 infoRow rfl (by decide) _ 0 [] rfl HR0.out (some ad) m.length c1 news rfl (HRW.out.below hHeld.below) Z2a3 Z2a4 hHeld.size ?_; intro v1_ w4_ HV1 hg; (try have HPX := hp_grown HPX hg (fun h => HNE.out (Option.some.inj h).symm)))
        refine hK.out _ _ (fun _ => ?_) (fun hHeld => ?_)
        ·exact Z2a5
        focus (have hHeld := hHeld (by decide); clear hK K; refine Zp2a ?_)
        refine wpAnyL_ready (rs := [11]) Z2a1 (by simp) (al11 (fun K hK => ?_) (AllReadyL.nil))
        focus (refine step_appR rfl (.tmp 108) (.tmp 116) _ rfl wq.heap.size 38 (.agg #[.slice none 0 0, .int .i64 0]) 2 32 Try.underlying22 infoRow rfl (by decide) _ (0 + m.length) ([] ++ news) rfl HV1.out (some ⟨g4_, 0, none⟩) 1 1 [.slice A0 x0.f0.length c0, .int .i64 r.f1] rfl (raw_lit HPX rfl rfl) Z2a3 Z2a4 hHeld.size ?_; intro v2_ w5_ HV2 hg2)
        refine hK.out _ _ (fun _ => ?_) (fun hHeld => ?_)
        ·exact Z2a6
        focus (have hHeld := hHeld (by decide); clear hK K; refine Zp2a ?_)
        refine wpAnyL_ready (rs := [12]) Z2a1 (by simp) (al12 (fun K hK => ?_) (AllReadyL.nil))
        focus go_simp
        refine hK.out _ _ (fun h => absurd rfl h) (fun _ => ?_)
        focus (clear hK K; refine Zp2a ?_)
        refine wpAnyL_done Z2a1 ?_ _; rotate_left 1
        focus (refine sl_newh (.cells #[.slice A0 x0.f0.length c0, .int .i64 r.f1] 38) 1 Z2a1 Z2a2 (fun g4_ w2 hg4_ hb2 HPX => ?_); (try have HNE := Lib.hid (show g4_ ≠ g0_ by have := hg4_.out; have := HP0.out.2; omega)); (try have HR0 := own_keepB HR0 hb2); (try have HV1 := own_keepB HV1 hb2); (try have HP0 := hp_keep HP0 hb2))
        refine hK.out _ _ (fun _ => ?_) (fun hHeld => ?_)
        ·exact hHeld.keep hb2
        focus (have hHeld := hHeld (by decide); clear hK K; refine Zp2a ?_)
        refine wpAnyL_ready (rs := [0]) Z2a1 (by simp) (al0 (fun K hK => ?_) (AllReadyL.nil))
        focus (refine sl_newh (.cells #[] 38) 0 Z2a1 Z2a2 (fun g0_ w2 hg0_ hb2 HP0 => ?_); have HG0 := Lib.hid (Nat.le_trans hHeld.size (Nat.le_of_eq hg0_.out.symm)); have HR0 := own_none (w := wq) (size := 2) HP0 HG0.out; (try have HNE := Lib.hid (show g4_ ≠ g0_ by have := hg0_.out; have := HPX.out.2; omega)); (try have HPX := hp_keep HPX hb2))
        refine hK.out _ _ (fun _ => ?_) (fun hHeld => ?_)
        ·exact hHeld.keep hb2
        focus (have hHeld := hHeld (by decide); clear hK K; refine Zp2a ?_)
        refine wpAnyL_ready (rs := [2]) Z2a1 (by simp) (al2 (fun K hK => ?_) (AllReadyL.nil))
        focus (refine step_appR rfl (.tmp 106) (.tmp 107) _ rfl wq.heap.size 38 (.agg #[.slice none 0 0, .int .i64 0]) 2 32 Try.underlying22 infoRow rfl (by decide) _ 0 [] rfl HR0.out (some ad) m.length c1 news rfl (HRW.out.below hHeld.below) Z2a3 Z2a4 hHeld.size ?_; intro v1_ w4_ HV1 hg; (try have HPX := hp_grown HPX hg (fun h => HNE.out (Option.some.inj h).symm)))
        refine hK.out _ _ (fun _ => ?_) (fun hHeld => ?_)
        ·exact Z2a5
        focus (have hHeld := hHeld (by decide); clear hK K; refine Zp2a ?_)
        refine wpAnyL_ready (rs := [11]) Z2a1 (by simp) (al11 (fun K hK => ?_) (AllReadyL.nil))
        focus (refine step_appR rfl (.tmp 108) (.tmp 116) _ rfl wq.heap.size 38 (.agg #[.slice none 0 0, .int .i64 0]) 2 32 Try.underlying22 infoRow rfl (by decide) _ (0 + m.length) ([] ++ news) rfl HV1.out (some ⟨g4_, 0, none⟩) 1 1 [.slice A0 x0.f0.length c0, .int .i64 r.f1] rfl (raw_lit HPX rfl rfl) Z2a3 Z2a4 hHeld.size ?_; intro v2_ w5_ HV2 hg2)
        refine hK.out _ _ (fun _ => ?_) (fun hHeld => ?_)
        ·exact Z2a6
        focus (have hHeld := hHeld (by decide); clear hK K; refine Zp2a ?_)
        refine wpAnyL_ready (rs := [12]) Z2a1 (by simp) (al12 (fun K hK => ?_) (AllReadyL.nil))
        focus go_simp
        refine hK.out _ _ (fun h => absurd rfl h) (fun _ => ?_)
        focus (clear hK K; refine Zp2a ?_)
        refine wpAnyL_done Z2a1 ?_ _; rotate_left 1
        all_goals exact HΦ.out g0_ v1_ g4_ v2_ w5_ ⟨HV2, hHeld.below⟩
       ·intro g0 v1 g4 v2 w6 hf
        have hE : Enc k38 w6 (m ++ [⟨x0.f0, r.f1⟩]) ([] ++ news ++ [.slice A0 x0.f0.length c0, .int .i64 r.f1]) := by
         rw [List.nil_append]
         exact (HEN.out.1.below hf.2).app (Enc.one rfl (k38_mk w6 ⟨x0.f0, r.f1⟩ (A0 := A0) (c0 := c0) HEN.out.2.1 (Kd.C_below HEN.out.2.2 hf.2)))
        obtain ⟨A3, c3, rfl, hc3, hC3⟩ := own_C (d := k38) hf.1.out hE Z2a7 Z2a3
        have en : 0 + m.length + 1 = (m ++ [⟨x0.f0, r.f1⟩] : List S38).length := by rw [List.length_append, List.length_singleton, Nat.zero_add]
        rw [en] at hc3 hC3 ⊢
        have hmore : chkF (m ++ [⟨x0.f0, r.f1⟩]) (W1 ++ [0]) = true := by
         obtain ⟨m', hm'⟩ := HMX.out.1
         rw [chkF_is, hm', List.map_append]
         have h := HMX.out.2
         rw [hm'] at h
         exact farkas_more (k := r.f1) h
        have htwo : lgL m = false → chkF m W2 = true := fun hl => by
         rw [chkF_is, ← HW.out.2.2.2.2]
         refine farkas_two HMX.out.2 (fun x hx => (HW.out.2.1 x hx).2) HW.out.1 fun q hq => ?_
         obtain ⟨y, hy, rfl⟩ := List.mem_map.1 hq
         have hyl : lgR y = false := by
          have := List.any_eq_false.1 hl y hy
          simpa using this
         have key : ∀ c : Int, lgc c = false → c.natAbs ≤ 1099511627776 := fun c hc => by
          unfold lgc at hc
          simp only [Bool.or_eq_false_iff, decide_eq_false_iff_not] at hc
          omega
         unfold lgR at hyl
         rw [Bool.or_eq_false_iff] at hyl
         refine ⟨key _ hyl.1, fun c hc => key c ?_⟩
         have := List.any_eq_false.1 hyl.2 c hc
         simpa using this
        have hin3 : ∀ x, x ∈ (m ++ [⟨x0.f0, r.f1⟩] : List S38) → RowIn x := by
         obtain ⟨m', hm'⟩ := HMX.out.1
         intro x hx
         rcases List.mem_append.1 hx with hx | hx
         ·exact HFI.out x hx
         ·rw [List.mem_singleton.1 hx]
          exact ⟨HIN.out.2.1.1, (HFI.out x0 (by rw [hm']; exact List.mem_cons_self ..)).2⟩
        obtain ⟨m3, hm3⟩ : ∃ m3, (m ++ [⟨x0.f0, r.f1⟩] : List S38) = m3 := ⟨_, rfl⟩
        rw [hm3] at hc3 hC3 hmore hin3 ⊢
        have HB := Lib.hid (HB.out.trans (hf.2.mono HB.out.size))
        have HC1 := Lib.hid (And.intro HC1.out.1 (Kd.C_below HC1.out.2 hf.2))
        have HC8 := Lib.hid (And.intro (Kd.C_below HC8.out.1 hf.2) (And.intro HC8.out.2.1 (And.intro (Kd.C_below HC8.out.2.2.1 hf.2) HC8.out.2.2.2)))
        have HC4 := Lib.hid (And.intro hc3 hC3)
        have HMO := Lib.hid (And.intro hmore hin3)
        obtain ⟨B, hB⟩ : ∃ B, lgL m = B := ⟨_, rfl⟩
        rw [hB] at htwo ⊢
        have HTW := Lib.hid htwo
        clear hf hE en hmore htwo hin3 hm3 hB hc3 hC3 HRW HEN HC3 HMX hm0'
        cases B with
        | true =>
         obtain ⟨wy, hwy⟩ : ∃ wy, wy = w6 := ⟨_, rfl⟩
         subst hwy
         go_wp2_with (at_builtin; refine Hid.out ?_)
         refine Lib.hid ?_
         obtain ⟨raw1, hr1, hen1⟩ := raw_of int_one HC8.out.1 (by decide)
         have HR1 := Lib.hid (And.intro hr1 hen1)
         have HO1 := own_none (w := wy) (base := wy.heap.size) (e := 2) (size := 1) (w2 := wy.alloc (.cells #[] 2)) (g := wy.heap.size) (Lib.hid ⟨blk_new _ _, by simp⟩) (Nat.le_refl _)
         clear hr1 hen1
         refine wpList_appRw (by rfl) (.tmp 129) (.tmp 130) _ rfl wy.heap.size 2 (.int .i64 0) 1 8 Try.underlying33 infoI rfl (by decide) _ 0 [] rfl HO1.out A8 W1.length c8 raw1 rfl (HR1.out.1.below ((Below.refl _ _).alloc (Nat.le_refl _) _)) Z2a8 (by have := HW.out.1; omega) (by simp) ?_
         intro v1 w8 ho1 hg1
         have HB8 := Lib.hid (show Below wy.heap.size wy w8 from Below.grown ((Below.refl _ _).alloc (Nat.le_refl _) _) hg1 (by simp) (fun k hk => (HO1.out.lt k hk).1))
         clear hg1 HO1
         go_wp2_with (at_builtin; refine Hid.out ?_)
         refine Lib.hid ?_
         have ho1a := own_keepB ho1 (w1 := w8.alloc (.cells #[.int .i64 0] 2)) ((Below.refl _ _).alloc (Nat.le_refl _) _)
         refine wpList_appRw (by rfl) (.tmp 131) (.tmp 132) _ rfl wy.heap.size 2 (.int .i64 0) 1 8 Try.underlying33 infoI rfl (by decide) _ (0 + W1.length) ([] ++ raw1) rfl ho1a.out (some ⟨w8.heap.size, 0, none⟩) 1 1 [.int .i64 0] rfl ⟨rfl, (fun e => by cases e), (fun ad_ e j_ u_ hu_ => by
           obtain rfl := Option.some.inj e
           match j_, hu_ with
           | 0, hu_ => cases hu_; rw [Addr.add_zero']; exact blk_cell (blk_new _ _) 0
           | j_ + 1, hu_ => cases hu_), (fun u hu => by rw [List.mem_singleton.1 hu]; rfl)⟩ Z2a8 (by have := HW.out.1; omega) Z2a9 ?_
         intro v2 w9 ho2 hg2
         have HB9 := Lib.hid (show Below wy.heap.size wy w9 from Below.grown (HB8.out.alloc HB8.out.size _) hg2 Z2a9 (fun k hk => (ho1.out.lt k hk).1))
         have hE2 : Enc (Kd.int .i64) w9 (W1 ++ [0]) ([] ++ raw1 ++ [.int .i64 0]) := by
          rw [List.nil_append]
          exact (HR1.out.2.below HB9.out).app (Enc.one rfl rfl)
         obtain ⟨A5, c5, rfl, hc5, hC5⟩ := own_C (d := Kd.int .i64) ho2.out hE2 Z2a7 Z2a8
         have en2 : 0 + W1.length + 1 = (W1 ++ [0]).length := by rw [List.length_append, List.length_singleton, Nat.zero_add]
         rw [en2] at hc5 hC5 ⊢
         have hw3 : ∀ x, x ∈ W1 ++ [0] → In64 x := fun x hx => by
          rcases List.mem_append.1 hx with hx | hx
          ·exact HW.out.2.2.1 x hx
          ·rw [List.mem_singleton.1 hx]; exact ⟨by decide, by decide⟩
         have hmo := HMO.out.1
         obtain ⟨W3, hW3⟩ : ∃ W3, W1 ++ [0] = W3 := ⟨_, rfl⟩
         rw [hW3] at hc5 hC5 hw3 hmo ⊢
         have HC5 := Lib.hid (And.intro hc5 (And.intro hC5 (And.intro hw3 hmo)))
         have HB := Lib.hid (HB.out.trans (HB9.out.mono HB.out.size))
         clear hE2 en2 hW3 hc5 hC5 hw3 hmo ho1 ho1a ho2 hg2 HR1
         go_wp2_with fail
         refine (CheckFarkas_any m3 W3 A3 A5 c3 c5 _ (Kd.C_below HC4.out.2 HB9.out) HC4.out.1 HC5.out.2.1 HC5.out.1 HMO.out.2 HC5.out.2.2.1).mono ?_
         rintro e wz ⟨rfl, hb1⟩
         rw [HC5.out.2.2.2]
         have HB := Lib.hid (HB.out.trans (hb1.mono HB.out.size))
         clear hb1
         go_wp2
         go_ret
         exact ⟨rfl, HB.out⟩
        | false =>
         go_wp2_with fail
         refine (CheckFarkas_any m W2 _ A9 c1 c9 _ HC1.out.2 HC1.out.1 HC8.out.2.2.1 HC8.out.2.2.2 HFI.out HW.out.2.2.2.1).mono ?_
         rintro e wy ⟨rfl, hb1⟩
         rw [HTW.out (by first | rfl | trivial)]
         have HB := Lib.hid (HB.out.trans (hb1.mono HB.out.size))
         have HC4 := Lib.hid (And.intro HC4.out.1 (Kd.C_below HC4.out.2 hb1))
         have HC8 := Lib.hid (And.intro (Kd.C_below HC8.out.1 hb1) (And.intro HC8.out.2.1 (And.intro (Kd.C_below HC8.out.2.2.1 hb1) HC8.out.2.2.2)))
         clear hb1
         go_wp2_with (at_builtin; refine Hid.out ?_)
         refine Lib.hid ?_
         obtain ⟨raw1, hr1, hen1⟩ := raw_of int_one HC8.out.1 (by decide)
         have HR1 := Lib.hid (And.intro hr1 hen1)
         have HO1 := own_none (w := wy) (base := wy.heap.size) (e := 2) (size := 1) (w2 := wy.alloc (.cells #[] 2)) (g := wy.heap.size) (Lib.hid ⟨blk_new _ _, by simp⟩) (Nat.le_refl _)
         clear hr1 hen1
         refine wpList_appRw (by rfl) (.tmp 129) (.tmp 130) _ rfl wy.heap.size 2 (.int .i64 0) 1 8 Try.underlying33 infoI rfl (by decide) _ 0 [] rfl HO1.out A8 W1.length c8 raw1 rfl (HR1.out.1.below ((Below.refl _ _).alloc (Nat.le_refl _) _)) Z2a8 (by have := HW.out.1; omega) (by simp) ?_
         intro v1 w8 ho1 hg1
         have HB8 := Lib.hid (show Below wy.heap.size wy w8 from Below.grown ((Below.refl _ _).alloc (Nat.le_refl _) _) hg1 (by simp) (fun k hk => (HO1.out.lt k hk).1))
         clear hg1 HO1
         go_wp2_with (at_builtin; refine Hid.out ?_)
         refine Lib.hid ?_
         have ho1a := own_keepB ho1 (w1 := w8.alloc (.cells #[.int .i64 0] 2)) ((Below.refl _ _).alloc (Nat.le_refl _) _)
         refine wpList_appRw (by rfl) (.tmp 131) (.tmp 132) _ rfl wy.heap.size 2 (.int .i64 0) 1 8 Try.underlying33 infoI rfl (by decide) _ (0 + W1.length) ([] ++ raw1) rfl ho1a.out (some ⟨w8.heap.size, 0, none⟩) 1 1 [.int .i64 0] rfl ⟨rfl, (fun e => by cases e), (fun ad_ e j_ u_ hu_ => by
           obtain rfl := Option.some.inj e
           match j_, hu_ with
           | 0, hu_ => cases hu_; rw [Addr.add_zero']; exact blk_cell (blk_new _ _) 0
           | j_ + 1, hu_ => cases hu_), (fun u hu => by rw [List.mem_singleton.1 hu]; rfl)⟩ Z2a8 (by have := HW.out.1; omega) Z2a9 ?_
         intro v2 w9 ho2 hg2
         have HB9 := Lib.hid (show Below wy.heap.size wy w9 from Below.grown (HB8.out.alloc HB8.out.size _) hg2 Z2a9 (fun k hk => (ho1.out.lt k hk).1))
         have hE2 : Enc (Kd.int .i64) w9 (W1 ++ [0]) ([] ++ raw1 ++ [.int .i64 0]) := by
          rw [List.nil_append]
          exact (HR1.out.2.below HB9.out).app (Enc.one rfl rfl)
         obtain ⟨A5, c5, rfl, hc5, hC5⟩ := own_C (d := Kd.int .i64) ho2.out hE2 Z2a7 Z2a8
         have en2 : 0 + W1.length + 1 = (W1 ++ [0]).length := by rw [List.length_append, List.length_singleton, Nat.zero_add]
         rw [en2] at hc5 hC5 ⊢
         have hw3 : ∀ x, x ∈ W1 ++ [0] → In64 x := fun x hx => by
          rcases List.mem_append.1 hx with hx | hx
          ·exact HW.out.2.2.1 x hx
          ·rw [List.mem_singleton.1 hx]; exact ⟨by decide, by decide⟩
         have hmo := HMO.out.1
         obtain ⟨W3, hW3⟩ : ∃ W3, W1 ++ [0] = W3 := ⟨_, rfl⟩
         rw [hW3] at hc5 hC5 hw3 hmo ⊢
         have HC5 := Lib.hid (And.intro hc5 (And.intro hC5 (And.intro hw3 hmo)))
         have HB := Lib.hid (HB.out.trans (HB9.out.mono HB.out.size))
         clear hE2 en2 hW3 hc5 hC5 hw3 hmo ho1 ho1a ho2 hg2 HR1
         go_wp2_with fail
         refine (CheckFarkas_any m3 W3 A3 A5 c3 c5 _ (Kd.C_below HC4.out.2 HB9.out) HC4.out.1 HC5.out.2.1 HC5.out.1 HMO.out.2 HC5.out.2.2.1).mono ?_
         rintro e wz ⟨rfl, hb1⟩
         rw [HC5.out.2.2.2]
         have HB := Lib.hid (HB.out.trans (hb1.mono HB.out.size))
         clear hb1
         go_wp2
         go_ret
         exact ⟨rfl, HB.out⟩
end Go.Proofs.Ytdkbnbebioflaaa.Ln
