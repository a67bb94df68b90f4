/- Plain: ref03's Sort is what the program's is. -/
import Derived.Test.YthckboogibhjaaaDoorTrmRs
import Derived.Test.YthckboogibhjaaaDoorTrmRg
import Derived.Test.YthckboogibhjaaaDoorTrmNot
namespace Go.Proofs.YthckboogibhjaaaDoor.Trm
set_option linter.unusedVariables false
set_option linter.unusedSimpArgs false
open Go.RowKit Go.Proofs.YthckboogibhjaaaDoorW.PrintWords Go.Proofs.YthckboogibhjaaaDoorW.PrintMore

theorem letter_n : ∀ n, n < 256 → ashlarref03_letter.f ((n : Nat) : Int) = some (letters.contains n.toUInt8) := by decide +kernel
theorem inner_n : ∀ n, n < 256 → (letters.contains n.toUInt8 || decide (48 ≤ n ∧ n ≤ 57) || decide (n = 95)) = inName.contains n.toUInt8 := by decide +kernel
theorem letter_c (c : UInt8) : ashlarref03_letter.f (c.toNat : Int) = some (letters.contains c) := by
  have := letter_n c.toNat c.toNat_lt
  rwa [show c.toNat.toUInt8 = c from UInt8.ofNat_toNat] at this
theorem inner_c (c : UInt8) : (letters.contains c || decide (48 ≤ c.toNat ∧ c.toNat ≤ 57) || decide (c.toNat = 95)) = inName.contains c := by
  have := inner_n c.toNat c.toNat_lt
  rwa [show c.toNat.toUInt8 = c from UInt8.ofNat_toNat] at this
theorem bt_get {s : ByteArray} {i : Nat} (h : i < s.size) : bt s (i : Int) = ((s[i]'h).toNat : Int) := by
  unfold bt
  rw [dif_pos (show ((i : Int)).toNat < s.size by simpa using h)]
  simp
theorem drop_byte {s : ByteArray} {i : Nat} (h : i < s.size) : s.data.toList.drop i = s[i] :: s.data.toList.drop (i + 1) := by
  have hl := len_data s
  rw [List.drop_eq_getElem_cons (by omega)]
  congr 1

theorem Name_l0 (s : ByteArray) (hs : s.size ≤ 16) : ∀ (d i : Nat), i + d = s.size → Ev (fun k => ashlarref03_Name.l0 k s (i : Int)) ((s.data.toList.drop i).all (inName.contains ·)) := by
  intro d
  induction d with
  | zero =>
    intro i hi
    rw [List.drop_of_length_le (by rw [len_data]; omega)]
    exact Ev.step (f := fun _ => some true) (fun k => by rw [ashlarref03_Name.l0, if_neg (by omega)]) (Ev.now _)
  | succ d ih =>
    intro i hi
    have h : i < s.size := by omega
    have hp : (i : Int) < (s.size : Int) := by omega
    have hp0 : (0 : Int) ≤ (i : Int) := Int.natCast_nonneg i
    have hn := ih (i + 1) (by omega)
    have hw : wrap64 ((i : Int) + 1) = ((i + 1 : Nat) : Int) := wrapj (by omega)
    have hc := inner_c s[i]
    rw [drop_byte h, List.all_cons, ← hc]
    cases hl : letters.contains s[i]
    · by_cases h1 : (s[i].toNat : Int) < 48
      · by_cases h2 : (s[i].toNat : Int) = 95
        · omega
        · have e : (false || decide (48 ≤ s[i].toNat ∧ s[i].toNat ≤ 57) || decide (s[i].toNat = 95)) = false := by simp; omega
          rw [e, Bool.false_and]
          exact Ev.step (f := fun _ => some false) (fun k => by rw [ashlarref03_Name.l0, if_pos hp, if_pos hp0, bt_get h, letter_c, hl, Option.bind_some, if_neg (by decide), if_pos h1, if_neg h2]) (Ev.now _)
      · by_cases h3 : (s[i].toNat : Int) > 57
        · by_cases h2 : (s[i].toNat : Int) = 95
          · have e : (false || decide (48 ≤ s[i].toNat ∧ s[i].toNat ≤ 57) || decide (s[i].toNat = 95)) = true := by simp; omega
            rw [e, Bool.true_and]
            exact Ev.step (f := fun k => ashlarref03_Name.l0 k s ((i + 1 : Nat) : Int)) (fun k => by rw [ashlarref03_Name.l0, if_pos hp, if_pos hp0, bt_get h, letter_c, hl, Option.bind_some, if_neg (by decide), if_neg h1, if_pos h3, if_pos h2, hw]) hn
          · have e : (false || decide (48 ≤ s[i].toNat ∧ s[i].toNat ≤ 57) || decide (s[i].toNat = 95)) = false := by simp; omega
            rw [e, Bool.false_and]
            exact Ev.step (f := fun _ => some false) (fun k => by rw [ashlarref03_Name.l0, if_pos hp, if_pos hp0, bt_get h, letter_c, hl, Option.bind_some, if_neg (by decide), if_neg h1, if_pos h3, if_neg h2]) (Ev.now _)
        · have e : (false || decide (48 ≤ s[i].toNat ∧ s[i].toNat ≤ 57) || decide (s[i].toNat = 95)) = true := by simp; omega
          rw [e, Bool.true_and]
          exact Ev.step (f := fun k => ashlarref03_Name.l0 k s ((i + 1 : Nat) : Int)) (fun k => by rw [ashlarref03_Name.l0, if_pos hp, if_pos hp0, bt_get h, letter_c, hl, Option.bind_some, if_neg (by decide), if_neg h1, if_neg h3, hw]) hn
    · rw [Bool.true_or, Bool.true_or, Bool.true_and]
      exact Ev.step (f := fun k => ashlarref03_Name.l0 k s ((i + 1 : Nat) : Int)) (fun k => by rw [ashlarref03_Name.l0, if_pos hp, if_pos hp0, bt_get h, letter_c, hl, Option.bind_some, if_pos rfl, hw]) hn

/-- Name. -/
theorem RName_ev (s : ByteArray) : Ev (fun k => ashlarref03_Name.f k s) (nameB s) := by
  have hj : Ev (fun k => ashlarref03_Name.j0 k s true) false := Ev.step (f := fun _ => some false) (fun k => by rw [ashlarref03_Name.j0, if_pos rfl]) (Ev.now _)
  unfold ashlarref03_Name.f
  by_cases h0 : s.toList = []
  · rw [nameB_nil h0]
    exact Ev.congr (fun k => by rw [if_pos h0]) hj
  · have hne : 0 < s.size := by
      rw [Lib.toList_data] at h0
      rw [← len_data]
      exact List.length_pos_iff.2 h0
    rw [nameB_pos hne]
    by_cases h1 : (s.size : Int) > 16
    · rw [decide_eq_false (show ¬ s.size ≤ 16 by omega), Bool.false_and, Bool.false_and]
      exact Ev.congr (fun k => by rw [if_neg h0, if_pos h1]) hj
    · have hb : bt s 0 = (s[0].toNat : Int) := bt_get (i := 0) hne
      rw [decide_eq_true (show s.size ≤ 16 by omega), Bool.true_and]
      cases hl : letters.contains s[0]
      · rw [Bool.false_and]
        exact Ev.congr (fun k => by rw [if_neg h0, if_neg h1, if_pos (by omega), hb, letter_c, hl, Option.bind_some, Bool.not_false]) hj
      · rw [Bool.true_and]
        have := Name_l0 s (by omega) s.size 0 (by omega)
        rw [List.drop_zero] at this
        refine Ev.congr (f := fun k => ashlarref03_Name.j0 k s false) (fun k => by rw [if_neg h0, if_neg h1, if_pos (by omega), hb, letter_c, hl, Option.bind_some, Bool.not_true]) ?_
        exact Ev.step (f := fun k => ashlarref03_Name.l0 k s 0) (fun k => by rw [ashlarref03_Name.j0, if_neg (by decide)]) this

/-- What the document's table says an operation has. -/
def refA (i : Nat) : List Int := if (shp i).many = true then [-1] else (shp i).a
theorem shape_in {i : Nat} (h1 : 1 ≤ i) (h2 : i < 29) (k : Nat) : ashlarref03_shape.f (k + 9) (i : Int) = some ((shp i).sort, refA i) := by
  have : i = 1 ∨ i = 2 ∨ i = 3 ∨ i = 4 ∨ i = 5 ∨ i = 6 ∨ i = 7 ∨ i = 8 ∨ i = 9 ∨ i = 10 ∨ i = 11 ∨ i = 12 ∨ i = 13 ∨ i = 14 ∨ i = 15 ∨ i = 16 ∨ i = 17 ∨ i = 18 ∨ i = 19 ∨ i = 20 ∨ i = 21 ∨ i = 22 ∨ i = 23 ∨ i = 24 ∨ i = 25 ∨ i = 26 ∨ i = 27 ∨ i = 28 := by omega
  rcases this with rfl | rfl | rfl | rfl | rfl | rfl | rfl | rfl | rfl | rfl | rfl | rfl | rfl | rfl | rfl | rfl | rfl | rfl | rfl | rfl | rfl | rfl | rfl | rfl | rfl | rfl | rfl | rfl
  all_goals rfl
theorem shape_out {op : Int} (h : op < 1 ∨ 28 < op) (k : Nat) : ashlarref03_shape.f (k + 9) op = some (0, []) := by
  have h1 : op ≠ 1 := by omega
  have h2 : op ≠ 2 := by omega
  have h3 : op ≠ 3 := by omega
  have h4 : op ≠ 4 := by omega
  have h5 : op ≠ 5 := by omega
  have h6 : op ≠ 6 := by omega
  have h7 : op ≠ 7 := by omega
  have h8 : op ≠ 8 := by omega
  have h9 : op ≠ 9 := by omega
  have h10 : op ≠ 10 := by omega
  have h11 : op ≠ 11 := by omega
  have h12 : op ≠ 12 := by omega
  have h13 : op ≠ 13 := by omega
  have h14 : op ≠ 14 := by omega
  have h15 : op ≠ 15 := by omega
  have h16 : op ≠ 16 := by omega
  have h17 : op ≠ 17 := by omega
  have h18 : op ≠ 18 := by omega
  have h19 : op ≠ 19 := by omega
  have h20 : op ≠ 20 := by omega
  have h21 : op ≠ 21 := by omega
  have h22 : op ≠ 22 := by omega
  have h23 : op ≠ 23 := by omega
  have h24 : op ≠ 24 := by omega
  have h25 : op ≠ 25 := by omega
  have h26 : op ≠ 26 := by omega
  have h27 : op ≠ 27 := by omega
  have h28 : op ≠ 28 := by omega
  have b1 : (op == 2) = false := by simp; omega
  simp [ashlarref03_shape.f, ashlarref03_shape.j0, ashlarref03_shape.j1, ashlarref03_shape.j2, ashlarref03_shape.j3, ashlarref03_shape.j4, ashlarref03_shape.j5, ashlarref03_shape.j6, ashlarref03_shape.j7, *]
theorem shape_ev (op : Int) : Ev (fun k => ashlarref03_shape.f k op) (if op < 1 ∨ 28 < op then (0, []) else ((shp op.toNat).sort, refA op.toNat)) := by
  refine ⟨9, fun k hk => ?_⟩
  obtain ⟨j, rfl⟩ : ∃ j, k = j + 9 := ⟨k - 9, by omega⟩
  by_cases h : op < 1 ∨ 28 < op
  · rw [if_pos h]; exact shape_out h j
  · rw [if_neg h]
    have := shape_in (i := op.toNat) (by omega) (by omega) j
    rwa [Int.toNat_of_nonneg (by omega)] at this
theorem shp_facts : ∀ i, i < 29 → 1 ≤ i → (shp i).sort ≠ 0 ∧ (shp i).name = (i == 2 || i == 7 || i == 14 || i == 15) ∧ (shp i).number = (i == 1 || i == 6) ∧ ((shp i).many = false → ∀ x ∈ (shp i).a, 0 < x) := by decide
theorem Var_f {op : Int} (h : ¬ (op < 1 ∨ 28 < op)) : ashlarref03_Var.f op = some (shp op.toNat).name := by
  rw [(shp_facts op.toNat (by omega) (by omega)).2.1]
  unfold ashlarref03_Var.f
  by_cases h2 : op = 2
  · subst h2; rfl
  · by_cases h7 : op = 7
    · subst h7; rfl
    · by_cases h14 : op = 14
      · subst h14; rfl
      · rw [if_neg h2, if_neg h7, if_neg h14]
        have e1 : (op.toNat == 2) = false := by simp; omega
        have e2 : (op.toNat == 7) = false := by simp; omega
        have e3 : (op.toNat == 14) = false := by simp; omega
        have e4 : (op == 15) = (op.toNat == 15) := by rw [Bool.eq_iff_iff]; simp; omega
        rw [e1, e2, e3, e4]; rfl

/-- A term's sort, 0 where it is not right. -/
def srt (t : S24) : Int := if rightT t 0 = true then (shp t.f0.toNat).sort else 0
theorem srt_want {t : S24} {want : Int} (h : 0 < want) : (srt t = want) = (rightT t want = true) := by
  unfold srt
  rw [right_want (want := want) (by omega)]
  cases hr : rightT t 0
  · simp; omega
  · simp
theorem rightL_drop {l : List S24} {s : Shp} {i : Nat} (h : i < l.length) : rightL (l.drop i) s i = (rightT l[i] (s.a.getD (if s.many = true then 0 else i) 0) && rightL (l.drop (i + 1)) s (i + 1)) := by
  rw [List.drop_eq_getElem_cons h, rightL]

theorem ok_is {s : Shp} {nm : ByteArray} {n : Int} {len : Nat} (a1 : nameB nm = s.name) (a2 : s.name = true ∨ nm.toList = []) (a3 : n = 0 ∨ s.number = true) : okHead s nm n len 0 = (s.many || (len : Int) == (s.a.length : Int)) := by
  have h2 : (!s.name && !nm.toList.isEmpty) = false := by rcases a2 with e | e <;> simp [e]
  have h3 : (!s.number && decide (n ≠ 0)) = false := by rcases a3 with e | e <;> simp [e]
  unfold okHead
  rw [a1, h2, h3]
  cases s.many <;> cases s.name <;> simp [bne]
theorem sorted_ev : ∀ (n : Nat) (t : S24), tsize t ≤ n → fine t → Ev (fun k => ashlarref03_sorted.f k t.f0 t.f1 t.f2 t.f3) (srt t) := by
  intro n
  induction n with
  | zero => intro t ht; rw [tsize_mk] at ht; omega
  | succ n ih =>
    intro t ht hf
    rw [fine_mk] at hf
    have hts := tsize_mk t
    have hsh := shape_ev t.f0
    have hnm := RName_ev t.f1
    have j0t : ∀ (x3 : Int) (x4 : List Int), Ev (fun k => ashlarref03_sorted.j0 k x3 x4 true t.f0 t.f1 t.f2 t.f3) 0 := fun x3 x4 => Ev.step (f := fun _ => some 0) (fun k => by rw [ashlarref03_sorted.j0, if_pos rfl]) (Ev.now _)
    by_cases hop : t.f0 < 1 ∨ 28 < t.f0
    · have e0 : srt t = 0 := by unfold srt; rw [rightT_mk, if_pos hop]; rfl
      rw [e0]
      rw [if_pos hop] at hsh
      refine Ev.step (f := fun k => (ashlarref03_shape.f k t.f0).bind fun bt145 => (ashlarref03_Name.f k t.f1).bind fun t149 => _) (fun k => by rw [ashlarref03_sorted.f]) ?_
      refine Ev.bind hsh ?_
      refine Ev.bind hnm ?_
      exact Ev.congr (fun k => by rw [if_pos rfl]) (j0t 0 [])
    · rw [if_neg hop] at hsh
      obtain ⟨f1, f2, f3, f4⟩ := shp_facts t.f0.toNat (by omega) (by omega)
      have fm := shp_many (i := t.f0.toNat) (by omega)
      have hV := Var_f hop
      have er : srt t = if (okHead (shp t.f0.toNat) t.f1 t.f2 t.f3.length 0 && rightL t.f3 (shp t.f0.toNat) 0) = true then (shp t.f0.toNat).sort else 0 := by
        unfold srt; rw [rightT_mk, if_neg hop]
      rw [er]
      refine Ev.step (f := fun k => (ashlarref03_shape.f k t.f0).bind fun bt145 => (ashlarref03_Name.f k t.f1).bind fun t149 => _) (fun k => by rw [ashlarref03_sorted.f]) ?_
      refine Ev.bind hsh ?_
      refine Ev.bind hnm ?_
      simp only [if_neg f1, hV, Option.bind_some]
      have hra : refA t.f0.toNat = if (shp t.f0.toNat).many = true then [-1] else (shp t.f0.toNat).a := rfl
      have enum : (t.f0 = 1 ∨ t.f0 = 6) ↔ (shp t.f0.toNat).number = true := by rw [f3]; simp; omega
      generalize shp t.f0.toNat = s at *
      generalize refA t.f0.toNat = ra at *
      -- the parts
      have loop : okHead s t.f1 t.f2 t.f3.length 0 = true → ∀ (d i : Nat), i + d = t.f3.length → Ev (fun k => ashlarref03_sorted.l0 k s.sort ra s.many (i : Int) t.f0 t.f1 t.f2 t.f3) (if rightL (t.f3.drop i) s i = true then s.sort else 0) := by
        intro hok d
        induction d with
        | zero =>
          intro i hi
          rw [List.drop_of_length_le (by omega), rightL, if_pos rfl]
          exact Ev.step (f := fun _ => some s.sort) (fun k => by rw [ashlarref03_sorted.l0, if_neg (by omega)]) (Ev.now _)
        | succ d ihd =>
          intro i hi
          have hil : i < t.f3.length := by omega
          have hp : (i : Int) < (t.f3.length : Int) := by omega
          have hp0 : (0 : Int) ≤ (i : Int) := Int.natCast_nonneg i
          have e2 : wrap64 ((i : Int) + 1) = ((i + 1 : Nat) : Int) := wrapj (by omega)
          have hsz := lsize_mem (List.getElem_mem hil)
          have hx := ih t.f3[i] (by omega) (fineL_get hf.2 hil)
          have hn := ihd (i + 1) (by omega)
          rw [rightL_drop hil]
          refine Ev.step (f := fun k => (ashlarref03_sorted.f k t.f3[i].f0 t.f3[i].f1 t.f3[i].f2 t.f3[i].f3).bind fun z => _) (fun k => by rw [ashlarref03_sorted.l0, if_pos hp, if_pos hp0, rd_get hil, e2]) ?_
          refine Ev.bind hx ?_
          cases hm : s.many
          · have hlen := ok_len hok hm
            have hia : i < s.a.length := by omega
            have era : ra = s.a := by rw [hra, hm, if_neg (by decide)]
            have hw : 0 < s.a[i] := f4 hm _ (List.getElem_mem hia)
            have hg : s.a.getD i 0 = s.a[i] := by simp [List.getElem?_eq_getElem hia]
            have hrd : rd ra (i : Int) = s.a[i] := by rw [era]; unfold rd; rw [Int.toNat_natCast, hg]
            have hp2 : (i : Int) < (ra.length : Int) := by rw [era]; omega
            rw [hm] at hn
            simp only [Bool.false_eq_true, if_false, hg, if_pos hp2, hrd]
            by_cases hs : srt t.f3[i] = s.a[i]
            · have hr := (srt_want hw).mp hs
              rw [hr, Bool.true_and]
              exact Ev.congr (fun k => by rw [if_pos hs]) hn
            · have hr : rightT t.f3[i] s.a[i] = false := by
                cases h : rightT t.f3[i] s.a[i]
                · rfl
                · exact absurd ((srt_want hw).mpr h) hs
              rw [hr, Bool.false_and, if_neg (by decide)]
              exact Ev.congr (fun k => by rw [if_neg hs]) (Ev.now _)
          · have hg : s.a.getD 0 0 = 4 := by rw [fm hm]; rfl
            rw [hm] at hn
            simp only [if_true, hg]
            by_cases hs : srt t.f3[i] = 4
            · have hr := (srt_want (by decide)).mp hs
              rw [hr, Bool.true_and]
              exact Ev.congr (fun k => by rw [if_pos hs]) hn
            · have hr : rightT t.f3[i] 4 = false := by
                cases h : rightT t.f3[i] 4
                · rfl
                · exact absurd ((srt_want (by decide)).mpr h) hs
              rw [hr, Bool.false_and, if_neg (by decide)]
              exact Ev.congr (fun k => by rw [if_neg hs]) (Ev.now _)
      have j0f : (nameB t.f1 = s.name) → (s.name = true ∨ t.f1.toList = []) → (t.f2 = 0 ∨ s.number = true) → Ev (fun k => ashlarref03_sorted.j0 k s.sort ra false t.f0 t.f1 t.f2 t.f3) (if (okHead s t.f1 t.f2 t.f3.length 0 && rightL t.f3 s 0) = true then s.sort else 0) := by
        intro a1 a2 a3
        have hok := ok_is (len := t.f3.length) a1 a2 a3
        cases hm : s.many
        · have era : ra = s.a := by rw [hra, hm, if_neg (by decide)]
          have hneg : s.a.length = 1 → (rd s.a 0 == -1) = false := fun h => by
            have h0 : 0 < s.a.length := by omega
            have := f4 hm _ (List.getElem_mem h0)
            have : rd s.a 0 = s.a[0] := by unfold rd; simp [List.getElem?_eq_getElem h0]
            rw [this]; simp; omega
          have hj1 : Ev (fun k => ashlarref03_sorted.j1 k s.sort s.a false t.f0 t.f1 t.f2 t.f3) (if (okHead s t.f1 t.f2 t.f3.length 0 && rightL t.f3 s 0) = true then s.sort else 0) := by
            refine Ev.step (f := fun k => ashlarref03_sorted.j2 k s.sort s.a false ((t.f3.length : Int) != (s.a.length : Int)) t.f0 t.f1 t.f2 t.f3) (fun k => by rw [ashlarref03_sorted.j1, if_neg (by decide)]) ?_
            cases hl : ((t.f3.length : Int) == (s.a.length : Int))
            · rw [hok, hm, hl, Bool.false_or, Bool.false_and, if_neg (by decide)]
              have hl' : ((t.f3.length : Int) != (s.a.length : Int)) = true := by simp [bne, hl]
              exact Ev.step (f := fun _ => some 0) (fun k => by rw [hl', ashlarref03_sorted.j2, if_pos rfl]) (Ev.now _)
            · have hl' : ((t.f3.length : Int) != (s.a.length : Int)) = false := by simp [bne, hl]
              have hok' : okHead s t.f1 t.f2 t.f3.length 0 = true := by rw [hok, hm, hl]; rfl
              have := loop hok' t.f3.length 0 (by omega)
              rw [List.drop_zero, hm, era] at this
              rw [hok', Bool.true_and]
              exact Ev.step (f := fun k => ashlarref03_sorted.l0 k s.sort s.a false 0 t.f0 t.f1 t.f2 t.f3) (fun k => by rw [hl', ashlarref03_sorted.j2, if_neg (by decide)]) this
          rw [era]
          by_cases h1 : (s.a.length : Int) = 1
          · exact Ev.step (f := fun k => ashlarref03_sorted.j1 k s.sort s.a false t.f0 t.f1 t.f2 t.f3) (fun k => by rw [ashlarref03_sorted.j0, if_neg (by decide), if_pos h1, if_pos (by omega), hneg (by omega)]) hj1
          · exact Ev.step (f := fun k => ashlarref03_sorted.j1 k s.sort s.a false t.f0 t.f1 t.f2 t.f3) (fun k => by rw [ashlarref03_sorted.j0, if_neg (by decide), if_neg h1]) hj1
        · have era : ra = [-1] := by rw [hra, hm, if_pos rfl]
          have hok' : okHead s t.f1 t.f2 t.f3.length 0 = true := by rw [hok, hm]; rfl
          have := loop hok' t.f3.length 0 (by omega)
          rw [List.drop_zero, hm, era] at this
          rw [hok', Bool.true_and, era]
          refine Ev.step (f := fun k => ashlarref03_sorted.j1 k s.sort [-1] true t.f0 t.f1 t.f2 t.f3) (fun k => by rw [ashlarref03_sorted.j0, if_neg (by decide), if_pos (by decide), if_pos (by decide)]; rfl) ?_
          refine Ev.step (f := fun k => ashlarref03_sorted.j2 k s.sort [-1] true false t.f0 t.f1 t.f2 t.f3) (fun k => by rw [ashlarref03_sorted.j1, if_pos rfl]) ?_
          exact Ev.step (f := fun k => ashlarref03_sorted.l0 k s.sort [-1] true 0 t.f0 t.f1 t.f2 t.f3) (fun k => by rw [ashlarref03_sorted.j2, if_neg (by decide)]) this
      have bad : okHead s t.f1 t.f2 t.f3.length 0 = false → Ev (fun k => ashlarref03_sorted.j0 k s.sort ra true t.f0 t.f1 t.f2 t.f3) (if (okHead s t.f1 t.f2 t.f3.length 0 && rightL t.f3 s 0) = true then s.sort else 0) := fun h => by
        rw [h, Bool.false_and, if_neg (by decide)]; exact j0t _ _
      have hemp : t.f1.toList = [] → nameB t.f1 = false := nameB_nil
      by_cases hvn : (s.name != nameB t.f1) = true
      · simp only [if_pos hvn]
        refine bad ?_
        unfold okHead
        cases h1 : s.name <;> cases h2 : nameB t.f1 <;> simp_all
      · simp only [if_neg hvn]
        have hv : nameB t.f1 = s.name := by cases h1 : s.name <;> cases h2 : nameB t.f1 <;> simp_all
        have num : ∀ (hh : s.name = true ∨ t.f1.toList = []), Ev (fun k => if t.f2 = 0 then ashlarref03_sorted.j0 k s.sort ra false t.f0 t.f1 t.f2 t.f3 else if t.f0 = 1 then ashlarref03_sorted.j0 k s.sort ra false t.f0 t.f1 t.f2 t.f3 else ashlarref03_sorted.j0 k s.sort ra (t.f0 != 6) t.f0 t.f1 t.f2 t.f3) (if (okHead s t.f1 t.f2 t.f3.length 0 && rightL t.f3 s 0) = true then s.sort else 0) := by
          intro hh
          by_cases z : t.f2 = 0
          · simp only [if_pos z]; exact j0f hv hh (.inl z)
          · simp only [if_neg z]
            by_cases o1 : t.f0 = 1
            · simp only [if_pos o1]; exact j0f hv hh (.inr (enum.1 (.inl o1)))
            · simp only [if_neg o1]
              by_cases o6 : t.f0 = 6
              · have : (t.f0 != 6) = false := by simp [o6]
                rw [this]; exact j0f hv hh (.inr (enum.1 (.inr o6)))
              · have e6 : (t.f0 != 6) = true := by simp [o6]
                have en : s.number = false := by
                  cases h : s.number
                  · rfl
                  · rcases enum.2 h with h | h
                    · exact absurd h o1
                    · exact absurd h o6
                rw [e6]
                refine bad ?_
                unfold okHead
                simp [en, z]
        cases hnm2 : s.name
        · simp only [Bool.false_eq_true, if_false]
          by_cases he : t.f1.toList = []
          · simp only [if_pos he]; exact num (.inr he)
          · simp only [if_neg he]
            refine bad ?_
            unfold okHead
            simp [hnm2, he]
        · simp only [if_true]; exact num (.inl hnm2)

/-- Sort. -/
theorem RSort_ev (t : S24) (hf : fine t) : Ev (fun k => ashlarref03_Sort.f k t.f0 t.f1 t.f2 t.f3) (sortT t) := by
  have hb := bigT_is t
  have jt : Ev (fun k => ashlarref03_Sort.j0 k true t.f0 t.f1 t.f2 t.f3) (0, 7) := Ev.step (f := fun _ => some (0, 7)) (fun k => by rw [ashlarref03_Sort.j0, if_pos rfl]) (Ev.now _)
  unfold ashlarref03_Sort.f
  refine Ev.bind (Size_ev t hf) ?_
  by_cases h1 : ((min (tsize t) 2001 : Nat) : Int) > 2000
  · have : sortT t = (0, 7) := by unfold sortT; rw [hb, decide_eq_true (by omega : 2000 < tsize t), Bool.true_or, if_pos rfl]
    rw [this]
    exact Ev.congr (fun k => by rw [if_pos h1]) jt
  · refine Ev.congr (f := fun k => (ashlarref03_Deep.f k t.f0 t.f1 t.f2 t.f3).bind fun z => ashlarref03_Sort.j0 k (decide (z > 100)) t.f0 t.f1 t.f2 t.f3) (fun k => by rw [if_neg h1]) ?_
    refine Ev.bind (Deep_ev t hf) ?_
    by_cases h2 : ((min (tdeep t) 101 : Nat) : Int) > 100
    · have : sortT t = (0, 7) := by unfold sortT; rw [hb, decide_eq_true (by omega : 100 < tdeep t), Bool.or_true, if_pos rfl]
      rw [this, decide_eq_true h2]
      exact jt
    · rw [decide_eq_false h2]
      have e : sortT t = if rightT t 0 = true then ((shp t.f0.toNat).sort, 0) else (0, 3) := by
        unfold sortT; rw [hb, decide_eq_false (by omega : ¬ 2000 < tsize t), decide_eq_false (by omega : ¬ 100 < tdeep t)]; rfl
      rw [e]
      refine Ev.step (f := fun k => (ashlarref03_sorted.f k t.f0 t.f1 t.f2 t.f3).bind fun z => if z = 0 then some ((0 : Int), (3 : Int)) else some (z, 0)) (fun k => by rw [ashlarref03_Sort.j0, if_neg (by decide)]) ?_
      refine Ev.bind (sorted_ev _ t (Nat.le_refl _) hf) ?_
      unfold srt
      cases hr : rightT t 0
      · exact Ev.congr (fun k => rfl) (Ev.now _)
      · have hop := right_op hr
        have := (shp_facts t.f0.toNat (by omega) (by omega)).1
        exact Ev.congr (fun k => by rw [if_pos rfl, if_pos rfl, if_neg this]) (Ev.now _)

/-- Find. -/
theorem RFind_ev (l : List S24) (t : S24) (hl : ∀ x, x ∈ l → fine x) (ht : fine t) (hn : l.length ≤ 1000000) : Ev (fun k => ashlarref07_Find.f k l t.f0 t.f1 t.f2 t.f3) (findT l t 0) := by
  have loop : ∀ (d i : Nat), i + d = l.length → Ev (fun k => ashlarref07_Find.l0 k l (i : Int) t.f0 t.f1 t.f2 t.f3) (findT (l.drop i) t i) := by
    intro d
    induction d with
    | zero =>
      intro i hi
      have hp : ¬ ((i : Int) < (l.length : Int)) := by omega
      rw [List.drop_of_length_le (by omega), findT]
      exact Ev.step (f := fun _ => some (-1)) (fun k => by rw [ashlarref07_Find.l0, if_neg hp]) (Ev.now _)
    | succ d ih =>
      intro i hi
      have hil : i < l.length := by omega
      have hp : (i : Int) < (l.length : Int) := by omega
      have hp0 : (0 : Int) ≤ (i : Int) := Int.natCast_nonneg i
      have e2 : wrap64 ((i : Int) + 1) = ((i + 1 : Nat) : Int) := wrapj (by omega)
      have hnx := ih (i + 1) (by omega)
      rw [List.drop_eq_getElem_cons hil, findT]
      refine Ev.step (f := fun k => (ashlarref03_Same.f k l[i].f0 l[i].f1 l[i].f2 l[i].f3 t.f0 t.f1 t.f2 t.f3).bind fun z => if z = true then some (i : Int) else ashlarref07_Find.l0 k l ((i + 1 : Nat) : Int) t.f0 t.f1 t.f2 t.f3) (fun k => by rw [ashlarref07_Find.l0, if_pos hp, if_pos hp0, rd_get hil, e2]) ?_
      refine Ev.bind (Same_ev l[i] t (hl _ (List.getElem_mem hil)) ht) ?_
      cases hs : sameB l[i] t with
      | true => simpa using Ev.now (i : Int)
      | false => simpa using hnx
  have := loop l.length 0 (by omega)
  rw [List.drop_zero] at this
  exact this
end Go.Proofs.YthckboogibhjaaaDoor.Trm
