/- slices.Clone of rows; whole.bound; whole.holds; whole.Check. -/
import Derived.Test.YtbpjnkeilhfajaaGreatLnApp
import Derived.Test.YtbpjnkeilhfajaaGreatLnJ
import Derived.Test.YtbpjnkeilhfajaaGreatRwX12
import Derived.Test.YtbpjnkeilhfajaaGreatLinW
import Derived.Lib.SliceRun
namespace Go.Proofs
theorem Z4v0 {p : Prop} (h : p := by repeat (first | exact Below.refl _ _ | with_reducible assumption | refine Below.alloc ?_ (by first | exact Nat.le_refl _ | (simp; done) | (simp; omega) | omega) _ | refine Below.setCell ?_ (by first | exact Nat.le_refl _ | (simp; done) | (simp; omega) | omega) _ | refine Below.drew ?_ | refine bdrewN ?_ _)) : p := h
theorem Z4v1 {p : Prop} (h : p := by first | exact Nat.le_refl _ | (simp; done) | (simp; omega) | omega) : p := h
end Go.Proofs
namespace Go.Proofs.YtbpjnkeilhfajaaGreat.Ln
open Go.RowKit Go.Proofs.YtbpjnkeilhfajaaGreat.Num Go.Proofs.YtbpjnkeilhfajaaGreat.Given Go.Proofs.YtbpjnkeilhfajaaGreat.Lin Go.Proofs.YtbpjnkeilhfajaaGreatW.PrintWords
set_option linter.unusedVariables false
set_option linter.unusedSimpArgs false
set_option maxHeartbeats 8000000 in
set_option maxRecDepth 100000 in
theorem cloneR_any {n : Nat} {A : Option Addr} {c : Nat} {raws : List Value} {w : World} (hraw : Raw w A n 2 raws) (hn : n ≤ 1000000) :
  Calls Tryz.prog 75 #[.slice A n c] w fun e w' => ∃ v', e = .returned v' ∧ w'.ownsRow w.heap.size 40 2 v' n raws ∧ Below w.heap.size w w' := by
 have q22 : ∀ (w : World) (a : Option Addr) (n c n' c' : Nat), (binOp .eql 22 (.slice a n c) (.slice none n' c')).run Tryz.prog w = .ok (.bool a.isNone) w := fun w a n c n' c' => Lib.run_eql_slice_nil w _ _ a n c n' c' Tryz.underlying22
 cases A with
 | none =>
  have hl := hraw.nil rfl
  subst hl
  have hr0 : raws = [] := List.eq_nil_of_length_eq_zero (by rw [hraw.len])
  subst hr0
  clear hn hraw
  go_enter Tryz.func75, Tryz.ntmps75
  go_wp2
  go_ret
  exact ⟨_, rfl, ⟨rfl, .inl ⟨rfl, rfl⟩⟩, Below.refl _ _⟩
 | some ad =>
  have HR := Lib.hid hraw
  have HN := Lib.hid hn
  clear hn hraw
  have HO := own_none (w := w) (base := w.heap.size) (e := 40) (size := 2) (w2 := w.alloc (.cells #[] 40)) (g := w.heap.size) (Lib.hid ⟨blk_new _ _, by simp⟩) (Nat.le_refl _)
  go_enter Tryz.func75, Tryz.ntmps75
  go_wp2_with (at_builtin; refine Hid.out ?_)
  refine Lib.hid ?_
  refine wpList_appR rfl (.tmp 5) (.tmp 6) _ rfl w.heap.size 40 (.agg #[.slice none 0 0, .int .i64 0]) 2 32 Tryz.underlying22 infoRow rfl (by decide) _ 0 [] rfl HO.out (some ad) n c raws rfl (HR.out.below ((Below.refl _ _).alloc (Nat.le_refl _) _)) (by have := HN.out; unfold maxLen; omega) (by have := HN.out; omega) (by simp) ?_
  intro v' w1 ho hg
  have HB := Lib.hid (show Below w.heap.size w w1 from Below.grown ((Below.refl _ _).alloc (Nat.le_refl _) _) hg (by simp) (fun k hk => (HO.out.lt k hk).1))
  clear hg HO
  go_wp2
  go_ret
  exact ⟨_, rfl, by have := ho.out; rwa [Nat.zero_add, List.nil_append] at this, HB.out⟩
theorem blk_newk2 {w : World} {o : Obj} {k : Nat} (h : k = w.heap.size) : (w.alloc o).heap[k]? = some o := by subst h; exact blk_new w o
theorem infoI2 : (Tryz.prog.info? 2).map (fun i => (i.zero, i.size, i.bytes)) = some (some (.int .i64 0), 1, 8) := by kernel_rfl
theorem C_cells {w : World} {g : Nat} {ty : TypeId} {l : List Int} {cs : Array Value} (hb : w.heap[g]? = some (.cells cs ty (0, 0))) (hcs : ∀ (j : Nat) (x : Int), l[j]? = some x → cs[j]? = some (Value.int .i64 x)) (hn : l.length ≤ 1000000) : (Kd.int .i64).C w (some ⟨g, 0, none⟩) l.length l := by
 refine ⟨rfl, by omega, fun _ => ⟨_, rfl, fun j p hj => ⟨[.int .i64 p], rfl, rfl, fun i u hu => ?_⟩⟩⟩
 match i, hu with
 | 0, hu =>
  have e : (⟨g, 0, none⟩ : Addr).add (j * (Kd.int .i64).sz + 0) = ⟨g, j, none⟩ := by rw [Addr.add_lit, show (Kd.int .i64).sz = 1 from rfl, Nat.mul_one, Nat.zero_add, Nat.add_zero]
  rw [e, blk_cell hb, hcs j p hj]
  exact hu
set_option maxHeartbeats 8000000 in
set_option maxRecDepth 100000 in
theorem bound_any {vars i : Nat} {s k : Int} (hi : i < vars) (hv : vars ≤ 64) (w : World) :
  Calls Tryz.prog 81 #[.int .i64 vars, .int .i64 i, .int .i64 s, .int .i64 k] w fun e w' => (∃ g cs, e = .returned (.agg #[.slice (some ⟨g, 0, none⟩) vars vars, .int .i64 k]) ∧ w.heap.size ≤ g ∧ w'.heap[g]? = some (.cells cs 2 (0, 0)) ∧ ∀ (j : Nat) (x : Int), ((List.replicate vars (0 : Int)).set i s)[j]? = some x → cs[j]? = some (Value.int .i64 x)) ∧ Below w.heap.size w w' := by
 obtain ⟨cs, hcs⟩ : ∃ cs, madeCells #[.int .i64 0] vars = cs := ⟨_, rfl⟩
 have hsz : cs.size = vars := by rw [← hcs, size_madeCells]
 have hget : ∀ j, j < vars → cs[j]? = some (Value.int .i64 0) := fun j hj => by
  have h1 := toList_madeCells_one (.int .i64 0) vars
  rw [hcs] at h1
  rw [← Array.getElem?_toList, h1]
  simp [hj]
 have hmake : ∀ W : World, (Instr.makeSlice 23 (.int .i64 (vars : Int)) (.int .i64 (vars : Int))).run Tryz.prog W = .ok (.slice (some ⟨W.heap.size, 0, none⟩) vars vars) (W.alloc (.cells cs 2)) := fun W => by
  cases hq : Tryz.prog.info? 2 with
  | none => have := infoI2; rw [hq] at this; cases this
  | some i0 =>
   have h0 := infoI2
   rw [hq] at h0
   injection h0 with h0
   injection h0 with h1 h2
   injection h2 with h2 h3
   have := run_make (P := Tryz.prog) W 23 2 i0 (.int .i64 0) Tryz.underlying23 hq h1 .i64 .i64 (vars : Int) (vars : Int) (by omega) (Int.le_refl _) (by rw [h3]; omega) (by omega)
   rw [this, Int.toNat_natCast, h2, Nat.mul_one, ← hcs]
   rfl
 have e1 : ((i : Int) < (vars : Int)) = True := eq_true (by omega)
 have e2 : (i < vars) = True := eq_true hi
 have e3 : cs[i]? = some (Value.int .i64 0) := hget i hi
 have HG := Lib.hid (And.intro hget (And.intro hsz (And.intro hi hv)))
 clear hcs hget hsz hi hv
 go_enter Tryz.func81, Tryz.ntmps81
 go_wp2
 refine bodyPost_ret (v := .agg #[.slice (some ⟨w.heap.size + 1, 0, none⟩) vars vars, .int .i64 k]) (by simp [results, Tryz.results81, go_sem]) rfl ?_
 obtain ⟨hget, hsz, hi, hv⟩ := HG.out
 refine ⟨⟨w.heap.size + 1, cs.setIfInBounds i (.int .i64 s), rfl, by omega, blk_alloc (blk_newk2 (by simp)) _, fun j x hj => ?_⟩, Z4v0⟩
 rw [List.getElem?_set] at hj
 rw [Array.getElem?_setIfInBounds]
 by_cases e : i = j
 ·subst e
  rw [if_pos rfl, if_pos (by rw [hsz]; exact hi)]
  rw [if_pos rfl] at hj
  split at hj
  ·rw [← Option.some.inj hj]
  ·cases hj
 ·rw [if_neg e] at hj ⊢
  have hjv : j < vars := by
   have := (List.getElem?_eq_some_iff.1 hj).1
   simpa using this
  rw [hget j hjv]
  have : x = 0 := by
   rw [List.getElem?_replicate, if_pos hjv] at hj
   exact (Option.some.inj hj).symm
  rw [this]
set_option maxHeartbeats 16000000 in
set_option maxRecDepth 100000 in
theorem wholds_any {l p : List Int} {k : Int} {A A' : Option Addr} {c c' : Nat} {w0 w : World} (hl : l.length = p.length) (hC : (Kd.int .i64).C w0 A l.length l) (hP : (Kd.int .i64).C w0 A' p.length p) (hB : Below w0.heap.size w0 w) (hk : In64 k) (hin : ∀ x, x ∈ l → In64 x) (hpn : ∀ x, x ∈ p → In64 x) :
  Calls Tryz.prog 69 #[.agg #[.slice A l.length c, .int .i64 k], .slice A' p.length c'] w fun e w' => e = .returned (.bool (holdW (l, k) p)) ∧ Below w.heap.size w w' := by
 unfold holdW
 dsimp only
 obtain ⟨o, ho⟩ : ∃ o, weighF l p k = o := ⟨_, rfl⟩
 rw [ho]
 have HO := Lib.hid ho
 have HC := Lib.hid hC
 have HP := Lib.hid hP
 have HB := Lib.hid hB
 have HIN := Lib.hid (And.intro hin (And.intro hpn hk))
 have HL := Lib.hid hl
 clear hl hC hP hB hk hin hpn ho
 go_enter Tryz.func69, Tryz.ntmps69
 go_wp2
 go_loopw [5, 17] (fun v5 v17 wr => ∃ (j : Nat) (s : Int), j ≤ l.length ∧ v5 = .int .i64 s ∧ v17 = .int .i64 j ∧ In64 s ∧ weighF (l.drop j) (p.drop j) s = o ∧ Below w.heap.size w wr) (fun _ v17 _ => l.length - (intOf v17).toNat)
 case atStart => exact ⟨0, k, Nat.zero_le _, rfl, rfl, HIN.out.2.2, by rw [List.drop_zero, List.drop_zero]; exact HO.out, Z4v0⟩
 case round =>
  obtain ⟨j, s, hj, rfl, rfl, hs, hw, hbr⟩ := hrel
  by_cases hjl : j < l.length
  ·have e1 : ((j : Int) < (l.length : Int)) = True := eq_true (by omega)
   obtain ⟨ad, rfl, q0⟩ := i64_at (Kd.C_below HC.out (HB.out.trans (hbr.mono HB.out.size))) hjl
   obtain ⟨ad', rfl, q1⟩ := i64_at (Kd.C_below HP.out (HB.out.trans (hbr.mono HB.out.size))) (show j < p.length by rw [← HL.out]; exact hjl)
   have hx := HIN.out.1 _ (List.getElem_mem hjl)
   have hjp : j < p.length := by rw [← HL.out]; exact hjl
   have hy := HIN.out.2.1 _ (List.getElem_mem hjp)
   have e2 : ((j : Int) < (p.length : Int)) = True := eq_true (by omega)
   rw [List.drop_eq_getElem_cons hjl, List.drop_eq_getElem_cons hjp, weighF] at hw
   obtain ⟨x, hxe⟩ : ∃ x, l[j] = x := ⟨_, rfl⟩
   obtain ⟨y, hye⟩ : ∃ y, p[j] = y := ⟨_, rfl⟩
   rw [hxe] at q0 hx hw
   rw [hye] at q1 hy hw
   have hj63 : j < 9223372036854775807 := by have := Kd.C_max HC.out; omega
   have EW := Lib.hid (wrapj (show j + 1 < 9223372036854775808 by omega))
   have HJ := Lib.hid (And.intro hj hjl)
   have HBR := Lib.hid hbr
   have HS := Lib.hid hs
   clear hxe hye hj hjl hjp hbr hj63 hs
   by_cases hm : In64 (x * y)
   ·have HM := Lib.hid (fun W => mul_ok hx hy hm W)
    rw [okI_is hm, Option.bind_some] at hw
    by_cases ha : In64 (s + x * y)
    ·have HA := Lib.hid (fun W => add_ok HS.out hm ha W)
     rw [okI_is ha, Option.bind_some] at hw
     have HW := Lib.hid (And.intro hw ha)
     clear hw hm ha hx hy
     go_wp2_with fail
     refine (HM.out _).mono ?_
     rintro e w1 ⟨rfl, hb1⟩
     have HBR := Lib.hid (HBR.out.trans (hb1.mono HBR.out.size))
     clear hb1
     go_wp2_with fail
     refine (HA.out _).mono ?_
     rintro e w2 ⟨rfl, hb1⟩
     have HBR := Lib.hid (HBR.out.trans (hb1.mono HBR.out.size))
     clear hb1
     go_wp2
     refine ⟨⟨j + 1, s + x * y, HJ.out.2, rfl, congrArg (Value.int .i64) EW.out, HW.out.2, HW.out.1, HBR.out⟩, ?_⟩
     rw [EW.out]
     simp only [intOf, Int.toNat_natCast]
     exact meas_lt HJ.out.2
    ·have HA := Lib.hid (fun W => add_no HS.out hm ha W)
     rw [okI_no ha, Option.bind_none] at hw
     subst hw
     clear hm ha hx hy
     go_wp2_with fail
     refine (HM.out _).mono ?_
     rintro e w1 ⟨rfl, hb1⟩
     have HBR := Lib.hid (HBR.out.trans (hb1.mono HBR.out.size))
     clear hb1
     go_wp2_with fail
     refine (HA.out _).mono ?_
     rintro e w2 ⟨rfl, hb1⟩
     have HBR := Lib.hid (HBR.out.trans (hb1.mono HBR.out.size))
     clear hb1
     go_wp2
     go_ret
     exact ⟨rfl, HBR.out⟩
   ·have HM := Lib.hid (fun W => mul_no hx hy hm W)
    rw [okI_no hm, Option.bind_none] at hw
    subst hw
    have h0 : In64 (s + 0) := by rw [Int.add_zero]; exact HS.out
    have HA := Lib.hid (fun W => add_ok HS.out (show In64 0 from ⟨by decide, by decide⟩) h0 W)
    rw [Int.add_zero] at HA
    clear hm hx hy h0
    go_wp2_with fail
    refine (HM.out _).mono ?_
    rintro e w1 ⟨rfl, hb1⟩
    have HBR := Lib.hid (HBR.out.trans (hb1.mono HBR.out.size))
    clear hb1
    go_wp2_with fail
    refine (HA.out _).mono ?_
    rintro e w2 ⟨rfl, hb1⟩
    have HBR := Lib.hid (HBR.out.trans (hb1.mono HBR.out.size))
    clear hb1
    go_wp2
    go_ret
    exact ⟨rfl, HBR.out⟩
  ·have e1 : ((j : Int) < (l.length : Int)) = False := eq_false (by omega)
   rw [List.drop_of_length_le (by omega), weigh_nil] at hw
   subst hw
   have HBR := Lib.hid hbr
   clear hj hjl hbr hs
   go_wp2
   go_ret
   refine ⟨?_, HBR.out⟩
   first | rfl | simp
set_option maxHeartbeats 8000000 in
set_option maxRecDepth 100000 in
theorem check1_any {x : S40} {p : List Int} {B A' : Option Addr} {d c' pb : Nat} {w0 w : World} (hd : x.f0.length ≤ d) (hC : (Kd.int .i64).C w0 B x.f0.length x.f0) (hP : (Kd.int .i64).C w0 A' p.length p) (hB : Below w0.heap.size w0 w) (hpb : w.heap[pb]? = some (.cells #[.slice A' p.length c'] 23 (0, 0))) (hr : RowIn x) (hpn : ∀ y, y ∈ p → In64 y) :
  Calls Tryz.prog 68 #[.agg #[.slice B x.f0.length d, .int .i64 x.f1], .pointer (some ⟨pb, 0, none⟩)] w fun e w' => e = .returned (.bool (!(decide (x.f0.length = p.length) && holdW (toZ x) p))) ∧ Below w.heap.size w w' := by
 have q0 : w.cell? ⟨pb, 0, none⟩ = some (.slice A' p.length c') := blk_cell hpb 0
 have hlt := blk_lt hpb
 have hlt2 : pb < w.heap.size + 1 := by omega
 by_cases hl : x.f0.length = p.length
 ·have e1 : ((x.f0.length : Int) = (p.length : Int)) = True := eq_true (by omega)
  have e1b : (((x.f0.length : Int)) != ((p.length : Int))) = false := by rw [hl]; simp
  have HH := Lib.hid (fun W (hW : Below w.heap.size w W) => wholds_any (c := d) (c' := c') hl hC hP (hB.trans (hW.mono hB.size)) hr.1 hr.2 hpn)
  rw [decide_eq_true hl, Bool.true_and]
  obtain ⟨b, hb⟩ : ∃ b, holdW (toZ x) p = b := ⟨_, rfl⟩
  have hb2 : holdW (x.f0, x.f1) p = b := hb
  rw [hb]
  rw [hb2] at HH
  clear hb hb2 hl hC hP hB hr hpn hd hpb
  go_enter Tryz.func68, Tryz.ntmps68
  go_wp2_with fail
  refine (HH.out _ Z4v0).mono ?_
  rintro e w1 ⟨rfl, hb1⟩
  have HB := Lib.hid (show Below w.heap.size w w1 by refine Below.trans ?_ (hb1.mono Z4v1); exact Z4v0)
  clear hb1
  go_wp2
  go_ret
  exact ⟨rfl, HB.out⟩
 ·have e1 : ((x.f0.length : Int) = (p.length : Int)) = False := eq_false (by omega)
  have e1n : (x.f0.length = p.length) = False := eq_false hl
  rw [decide_eq_false hl, Bool.false_and]
  clear hl hC hP hB hr hpn hd hpb
  go_enter Tryz.func68, Tryz.ntmps68
  go_wp2
  go_ret
  exact ⟨by first | rfl | simp, Z4v0⟩
set_option maxHeartbeats 8000000 in
set_option maxRecDepth 100000 in
theorem wcheck_any (l : List S40) (p : List Int) (A A' : Option Addr) (c c' : Nat) (w : World) (hC : Kd.C k40 w A l.length l) (hc : l.length ≤ c) (hP : (Kd.int .i64).C w A' p.length p) (hin : ∀ r, r ∈ l → RowIn r) (hpn : ∀ y, y ∈ p → In64 y) :
  Calls Tryz.prog 28 #[.slice A l.length c, .slice A' p.length c'] w fun e w' => e = .returned (.bool (chkW (l.map toZ) p)) ∧ Below w.heap.size w w' := by
 have hmf := run_makeFunc
 have hany : (l.any fun x => !(decide (x.f0.length = p.length) && holdW (toZ x) p)) = !(chkW (l.map toZ) p) := by
  unfold chkW
  rw [List.all_map, List.all_eq_not_any_not, Bool.not_not]
  rfl
 have HA := Lib.hid (fun (W W1 : World) (hW : Below w.heap.size w W) (hW1 : Below W.heap.size W W1) (pb : Nat) (hpb : W.heap[pb]? = some (.cells #[.slice A' p.length c'] 23 (0, 0))) =>
  anyC (fun x => !(decide (x.f0.length = p.length) && holdW (toZ x) p)) l A c (.pointer (some ⟨pb, 0, none⟩)) W W1 (Kd.C_below hC hW) hc hW1 (fun x hx B d hd hCx W2 hW2 => check1_any hd hCx (Kd.C_below hP hW) (hW1.trans (hW2.mono hW1.size)) (blk_below (blk_below hpb hW1) hW2) (hin x hx) hpn))
 simp only [hany] at HA
 clear hany hC hP hin hpn
 go_enter Tryz.func28, Tryz.ntmps28
 go_wp2_with fail
 refine (HA.out _ _ Z4v0 (Below.refl _ _) w.heap.size (blk_new _ _)).mono ?_
 rintro e w1 ⟨rfl, hb1⟩
 have HB := Lib.hid (show Below w.heap.size w w1 by refine Below.trans ?_ (hb1.mono Z4v1); exact Z4v0)
 clear hb1
 go_wp2
 go_ret
 exact ⟨by first | rfl | simp, HB.out⟩
end Go.Proofs.YtbpjnkeilhfajaaGreat.Ln
