/- The contract of lex.Join. -/
import Derived.Test.YtnegkabafigfnaaDoorLexD
import Derived.Test.YtnegkabafigfnaaDoorLexE
import Derived.Test.YtnegkabafigfnaaDoorWWords
import Derived.LoopTactic
import Derived.Deep.LoopGhost
namespace Go.Proofs.YtnegkabafigfnaaDoor.Lex
open Go.RowKit Go.Shelf Go.Proofs.YtnegkabafigfnaaDoorW.PrintWords
set_option linter.unusedVariables false
set_option linter.unusedSimpArgs false

abbrev Tk := Int × ByteArray × Int
def kT : Kd Tk := Kd.pair (Kd.int .i64) (Kd.pair Kd.string (Kd.int .i64))
def zT : Tk := (0, ⟨#[]⟩, 0)

/-- What stands ahead of a token, behind another one. -/
def sepP (p : Option Int) (k : Int) : List UInt8 := match p with
  | none => []
  | some q => if q ≠ 1 ∧ k ≠ 2 then [32] else []
def joinFrom : Option Int → List Tk → List UInt8
  | _, [] => []
  | p, t :: r => sepP p t.1 ++ t.2.1.data.toList ++ joinFrom (some t.1) r
/-- lex.Join's text. -/
def joinP (l : List Tk) : List UInt8 := joinFrom none l

theorem joinFrom_snoc (l : List Tk) (t : Tk) : ∀ p, joinFrom p (l ++ [t]) = joinFrom p l ++ sepP (match l.getLast? with | none => p | some x => some x.1) t.1 ++ t.2.1.data.toList := by
  induction l with
  | nil => intro p; simp [joinFrom]
  | cons a l ih =>
    intro p
    rw [List.cons_append]
    unfold joinFrom
    rw [ih]
    cases l with
    | nil => simp [joinFrom]
    | cons b l =>
      obtain ⟨y, hy⟩ : ∃ y, (b :: l).getLast? = some y := by
        cases h : (b :: l).getLast? with
        | none => simp at h
        | some y => exact ⟨y, rfl⟩
      rw [List.getLast?_cons_cons, hy]; simp

theorem kT_open {w : World} {x : Tk} {cs : List Value} (h : kT.K w x cs) : cs = [.int .i64 x.1, .string x.2.1, .int .i64 x.2.2] := by
  obtain ⟨_, _, rfl, rfl, ⟨_, _, rfl, rfl, rfl⟩⟩ := h
  exact rfl
theorem kT_at {w : World} {ad : Addr} {n : Nat} {xs : List Tk} (h : Kd.C kT w (some ad) n xs) (k : Nat) (h1 : k < n) :
    w.cell? (ad.add (k * 3)) = some (.int .i64 (xs.getD k zT).1) ∧ w.cell? ⟨(ad.add (k * 3)).block, (ad.add (k * 3)).off + 1, none⟩ = some (.string (xs.getD k zT).2.1) ∧ w.cell? ⟨(ad.add (k * 3)).block, (ad.add (k * 3)).off + 2, none⟩ = some (.int .i64 (xs.getD k zT).2.2) := by
  obtain ⟨ad', c, e, _, hK, hc0⟩ := Kd.C_get h zT (k : Int) (by omega) (by omega)
  obtain rfl := Option.some.inj e
  have hc : ∀ j u, c[j]? = some u → w.cell? (ad.add (k * 3 + j)) = some u := hc0
  have hK' : kT.K w (xs.getD k zT) c := hK
  obtain rfl := kT_open hK'
  exact ⟨hc 0 _ rfl, by rw [← add_field _ _ 1 (by omega)]; exact hc 1 _ rfl, by rw [← add_field _ _ 2 (by omega)]; exact hc 2 _ rfl⟩

theorem sep_nil (t : Tk) (l : List Tk) (k : Nat) (hk : k < l.length) : joinP (l.take (k + 1)) = joinP (l.take k) ++ sepP (if k = 0 then none else some (l.getD (k - 1) zT).1) (l.getD k zT).1 ++ (l.getD k zT).2.1.data.toList := by
  have e : l.take (k + 1) = l.take k ++ [l.getD k zT] := by
    rw [List.take_add_one, List.getElem?_eq_getElem hk]; simp [List.getD, List.getElem?_eq_getElem hk]
  unfold joinP
  rw [e, joinFrom_snoc]
  congr 2
  by_cases h0 : k = 0
  · subst h0; simp
  · rw [if_neg h0]
    have : (l.take k).getLast? = some (l.getD (k - 1) zT) := by
      rw [List.getLast?_eq_getElem?, List.length_take, Nat.min_eq_left (Nat.le_of_lt hk), List.getElem?_take, if_pos (by omega), List.getD, List.getElem?_eq_getElem (by omega)]; rfl
    rw [this]

set_option maxHeartbeats 4000000 in
set_option maxRecDepth 100000 in
theorem join_any (A : Option Addr) (c : Nat) (l : List Tk) (w : World) (hr : Kd.C kT w A l.length l) (hc : l.length ≤ c) (htot : ∀ k, k ≤ l.length → (joinP (l.take k)).length + 1 + k ≤ 1000000) :
    Calls Tryd.prog 14 #[.slice A l.length c] w fun e w' => e = .returned (.string ⟨(joinP l).toArray⟩) ∧ Below w.heap.size w w' := by
  have hlen := htot l.length (Nat.le_refl _)
  have hR := Lib.hid hr
  clear hr
  have hT := Lib.hid htot
  clear htot
  go_enter Tryd.func14, Tryd.ntmps14
  go_wp2
  go_loopw [8] (fun i wr => ∃ k : Nat, k ≤ l.length ∧ i = .int .i64 k ∧ Lib.IsBuilderF 48 5 w.heap.size w.heap.size (Lib.byteCells (joinP (l.take k))) wr ∧ Below w.heap.size w wr) (fun i _ => l.length - (intOf i).toNat)
  case atStart => exact ⟨0, Nat.zero_le _, rfl, Lib.IsBuilderF.of (Lib.fresh_isBuilder _ _ _), (by repeat (first | exact Below.refl _ _ | with_reducible assumption | refine Below.alloc ?_ (by first | exact Nat.le_refl _ | (simp; done) | (simp; omega) | omega) _ | refine Below.setCell ?_ (by first | exact Nat.le_refl _ | (simp; done) | (simp; omega) | omega) _ | refine Below.drew ?_ | refine bdrewN ?_ _))⟩
  case round =>
    obtain ⟨k, hk, rfl, hI, hbw⟩ := hrel
    by_cases hlt : k < l.length
    · have hr2 := Kd.C_below hR.out hbw
      obtain ⟨ad, rfl⟩ : ∃ ad, A = some ad := by
        obtain ⟨ad, _, e, _⟩ := Kd.C_get hr2 zT (k : Int) (by omega) (by omega)
        exact ⟨ad, e⟩
      obtain ⟨p0, p1, p2⟩ := kT_at hr2 k hlt
      have hs := sep_nil zT l k hlt
      have hlk := hT.out (k + 1) hlt
      rw [hs] at hlk
      generalize l.getD k zT = tt at *
      obtain ⟨tk, tx, ta⟩ := tt
      simp only at p0 p1 p2 hs hlk
      have hz : tx.data.toList.length = tx.size := size_eq tx
      simp only [List.length_append] at hlk
      have HS := Lib.hid hs
      clear hs
      have hbz := hbw.size
      have hbl : w.heap.size < wr.heap.size := hI.elim (fun x => x.lt) (fun x => x.lt)
      have hIa := hI.alloc (Obj.cells #[.int .i64 tk, .string tx, .int .i64 ta] 35)
      by_cases hk0 : k = 0
      · subst hk0
        have ea : ad.add (0 * 3) = ad := by cases ad; rfl
        rw [ea] at p0 p1 p2
        clear ea
        go_wp2_with fail
        refine (writeString_k _ _ _ tx _ hIa (by rw [Lib.byteCells_length]; omega) (by simp; omega)).mono ?_
        rintro e w1 ⟨rfl, h1, hb1, hk1⟩
        go_wp2
        go_roundw
        case rel => exact ⟨1, by omega, by go_num, by rw [HS.out]; exact .inr (by simpa [Lib.byteCells, Lib.strCells, sepP] using h1), Below.trans (by repeat (first | with_reducible exact Below.refl _ _ | with_reducible assumption | with_reducible refine Below.alloc ?_ (by first | exact Nat.le_refl _ | (simp; done) | (simp; omega) | omega) _ | with_reducible refine Below.setCell ?_ (by first | exact Nat.le_refl _ | (simp; done) | (simp; omega) | omega) _ | with_reducible refine Below.drew ?_ | with_reducible refine bdrewN ?_ _)) hb1⟩
        case measure => simp [intOf]; omega
      · obtain ⟨q0, q1, q2⟩ := kT_at hr2 (k - 1) (by omega)
        generalize l.getD (k - 1) zT = uu at *
        obtain ⟨qk, qx, qa⟩ := uu
        simp only at q0
        have q0' : ∀ o, (wr.alloc o).cell? (ad.add ((k - 1) * 3)) = some (.int .i64 qk) := fun o => by
          rw [World.cell?_alloc_some _ _ _ (by rw [q0]; rfl), q0]
        have hkp : 0 < k := by omega
        clear q1 q2 q0
        by_cases hq : qk = 1
        · subst hq
          have hS2 : joinP (List.take (k + 1) l) = joinP (List.take k l) ++ tx.data.toList := by rw [HS.out, if_neg hk0]; simp [sepP]
          clear HS
          have HS := Lib.hid hS2
          clear hS2 hk0
          go_wp2_with fail
          refine (writeString_k _ _ _ tx _ hIa (by rw [Lib.byteCells_length]; omega) (by simp; omega)).mono ?_
          rintro e w1 ⟨rfl, h1, hb1, hk1⟩
          go_wp2
          go_roundw
          case rel => exact ⟨k + 1, by omega, by go_num, by rw [HS.out]; exact .inr (by simpa [Lib.byteCells, Lib.strCells] using h1), Below.trans (by repeat (first | with_reducible exact Below.refl _ _ | with_reducible assumption | with_reducible refine Below.alloc ?_ (by first | exact Nat.le_refl _ | (simp; done) | (simp; omega) | omega) _ | with_reducible refine Below.setCell ?_ (by first | exact Nat.le_refl _ | (simp; done) | (simp; omega) | omega) _ | with_reducible refine Below.drew ?_ | with_reducible refine bdrewN ?_ _)) hb1⟩
          case measure => simp [intOf]; omega
        · have hq1 : (qk != 1) = true := by simpa using hq
          have hq2 : (qk == 1) = false := by simpa using hq
          by_cases ht : tk = 2
          · subst ht
            have hS2 : joinP (List.take (k + 1) l) = joinP (List.take k l) ++ tx.data.toList := by rw [HS.out, if_neg hk0]; simp [sepP]
            clear HS
            have HS := Lib.hid hS2
            clear hS2 hk0 hq
            go_wp2_with fail
            refine (writeString_k _ _ _ tx _ hIa (by rw [Lib.byteCells_length]; omega) (by simp; omega)).mono ?_
            rintro e w1 ⟨rfl, h1, hb1, hk1⟩
            go_wp2
            go_roundw
            case rel => exact ⟨k + 1, by omega, by go_num, by rw [HS.out]; exact .inr (by simpa [Lib.byteCells, Lib.strCells] using h1), Below.trans (by repeat (first | with_reducible exact Below.refl _ _ | with_reducible assumption | with_reducible refine Below.alloc ?_ (by first | exact Nat.le_refl _ | (simp; done) | (simp; omega) | omega) _ | with_reducible refine Below.setCell ?_ (by first | exact Nat.le_refl _ | (simp; done) | (simp; omega) | omega) _ | with_reducible refine Below.drew ?_ | with_reducible refine bdrewN ?_ _)) hb1⟩
            case measure => simp [intOf]; omega
          · have ht1 : (tk != 2) = true := by simpa using ht
            have ht2 : (tk == 2) = false := by simpa using ht
            have hS2 : joinP (List.take (k + 1) l) = joinP (List.take k l) ++ [32] ++ tx.data.toList := by rw [HS.out, if_neg hk0]; simp [sepP, hq, ht]
            clear HS
            have hsp : sepP (if k = 0 then none else some qk) tk = [32] := by rw [if_neg hk0]; simp [sepP, hq, ht]
            rw [hsp] at hlk
            simp at hlk
            have HS := Lib.hid hS2
            clear hS2 hk0 hq ht hsp
            go_wp2_with fail
            refine (writeByte_k _ _ _ 32 _ hIa (by rw [Lib.byteCells_length]; omega) (by simp; omega)).mono ?_
            rintro e w1 ⟨rfl, h1, hb1, hk1⟩
            have hbx := hk1 wr.heap.size (Obj.cells #[.int .i64 tk, .string tx, .int .i64 ta] 35) (by show (wr.heap.push _)[wr.heap.size]? = some _; simp) (by intro h; injection h with h; omega) (by intro c fz h; injection h with _ h; cases h)
            have hbw1 : Below w.heap.size w w1 := Below.trans (by repeat (first | with_reducible exact Below.refl _ _ | with_reducible assumption | with_reducible refine Below.alloc ?_ (by first | exact Nat.le_refl _ | (simp; done) | (simp; omega) | omega) _ | with_reducible refine Below.setCell ?_ (by first | exact Nat.le_refl _ | (simp; done) | (simp; omega) | omega) _ | with_reducible refine Below.drew ?_ | with_reducible refine bdrewN ?_ _)) hb1
            have hz1 := hb1.size
            have d1 : w1.cell? ⟨wr.heap.size, 1, none⟩ = some (.string tx) := by simp [World.cell?, hbx]
            go_wp2_with fail
            refine (writeString_k _ _ _ tx _ (.inr h1) (by simp [Lib.byteCells_length]; omega) (by have := hbw1.size; omega)).mono ?_
            rintro e w2 ⟨rfl, h2, hb2, hk2⟩
            go_wp2
            go_roundw
            case rel => exact ⟨k + 1, by omega, by go_num, by rw [HS.out]; exact .inr (by simpa [Lib.byteCells, Lib.strCells] using h2), Below.trans hbw1 hb2⟩
            case measure => simp [intOf]; omega
    · obtain rfl : k = l.length := by omega
      rw [List.take_length] at hI
      go_wp2_with fail
      refine (Tryd.Builder_String_any_f _ _ _ _ hI hbw.size).mono ?_
      rintro e w1 ⟨rfl, h1, hb1⟩
      go_wp2
      go_ret
      exact ⟨rfl, Below.trans hbw hb1⟩
end Go.Proofs.YtnegkabafigfnaaDoor.Lex
