/- term.shapes: the table of operations. -/
import Derived.Test.YthckboogibhjaaaDoorTrmQ
namespace Go.Proofs.YthckboogibhjaaaDoor.Trm
set_option linter.unusedVariables false
set_option linter.unusedSimpArgs false
open Go.RowKit Go.Proofs.YthckboogibhjaaaDoorW.PrintWords Go.Proofs.YthckboogibhjaaaDoorW.PrintMore

/-- A row of the table in cells. -/
def rowCells (s : Shp) (A : Option Addr) : List Value := [.int .i64 s.sort, .bool s.name, .bool s.number, .slice A s.a.length s.a.length, .bool s.many]
def tabCells : List Shp → List (Option Addr) → List Value
  | s :: l, A :: m => rowCells s A ++ tabCells l m
  | _, _ => []

theorem row_ints {W : World} {g : Nat} {xs : List Int} (hn : 0 < xs.length) (hm : xs.length ≤ 2) (h : W.heap[g]? = some (.cells (xs.map (Value.int .i64)).toArray 3 (0, 0))) : Kd.C (Kd.int .i64) W (some ⟨g, 0, none⟩) xs.length xs := by
  refine ⟨rfl, by omega, fun _ => ⟨_, rfl, fun j p hj => ⟨[.int .i64 p], rfl, rfl, fun i u hu => ?_⟩⟩⟩
  have hi : i = 0 := by
    cases i with
    | zero => rfl
    | succ i => simp at hu
  subst hi
  have hu' : u = .int .i64 p := by simpa using hu.symm
  subst hu'
  have e : (⟨g, 0, none⟩ : Addr).add (j * 1 + 0) = ⟨g, j, none⟩ := by unfold Addr.add; split <;> simp_all
  show W.cell? ((⟨g, 0, none⟩ : Addr).add (j * 1 + 0)) = _
  rw [e, blk_cell h j]
  simp [hj]

theorem tab_of {W : World} {g : Nat} {a0 a1 a2 a3 a4 a5 a6 a7 a8 a9 a10 a11 a12 a13 a14 a15 a16 a17 a18 a19 a20 a21 a22 a23 a24 a25 a26 a27 a28 : Option Addr} (h : W.heap[g]? = some (.cells (tabCells shps [a0, a1, a2, a3, a4, a5, a6, a7, a8, a9, a10, a11, a12, a13, a14, a15, a16, a17, a18, a19, a20, a21, a22, a23, a24, a25, a26, a27, a28]).toArray 62 (0, 0)))
    (c0 : Kd.C (Kd.int .i64) W a0 0 [])
    (c1 : Kd.C (Kd.int .i64) W a1 0 [])
    (c2 : Kd.C (Kd.int .i64) W a2 0 [])
    (c3 : Kd.C (Kd.int .i64) W a3 1 [2])
    (c4 : Kd.C (Kd.int .i64) W a4 2 [1, 1])
    (c5 : Kd.C (Kd.int .i64) W a5 2 [1, 1])
    (c6 : Kd.C (Kd.int .i64) W a6 1 [1])
    (c7 : Kd.C (Kd.int .i64) W a7 0 [])
    (c8 : Kd.C (Kd.int .i64) W a8 0 [])
    (c9 : Kd.C (Kd.int .i64) W a9 0 [])
    (c10 : Kd.C (Kd.int .i64) W a10 1 [3])
    (c11 : Kd.C (Kd.int .i64) W a11 2 [2, 2])
    (c12 : Kd.C (Kd.int .i64) W a12 2 [2, 2])
    (c13 : Kd.C (Kd.int .i64) W a13 2 [2, 2])
    (c14 : Kd.C (Kd.int .i64) W a14 0 [])
    (c15 : Kd.C (Kd.int .i64) W a15 0 [])
    (c16 : Kd.C (Kd.int .i64) W a16 0 [])
    (c17 : Kd.C (Kd.int .i64) W a17 0 [])
    (c18 : Kd.C (Kd.int .i64) W a18 1 [4])
    (c19 : Kd.C (Kd.int .i64) W a19 1 [4])
    (c20 : Kd.C (Kd.int .i64) W a20 1 [4])
    (c21 : Kd.C (Kd.int .i64) W a21 2 [4, 4])
    (c22 : Kd.C (Kd.int .i64) W a22 2 [1, 1])
    (c23 : Kd.C (Kd.int .i64) W a23 2 [1, 1])
    (c24 : Kd.C (Kd.int .i64) W a24 2 [1, 1])
    (c25 : Kd.C (Kd.int .i64) W a25 2 [3, 2])
    (c26 : Kd.C (Kd.int .i64) W a26 2 [2, 2])
    (c27 : Kd.C (Kd.int .i64) W a27 2 [2, 2])
    (c28 : Kd.C (Kd.int .i64) W a28 2 [3, 3])
    : TabAt W g := by
  intro i hi
  match i, hi with
  | 0, _ => exact ⟨a0, (blk_cell h 0).trans rfl, (blk_cell h 1).trans rfl, (blk_cell h 2).trans rfl, (blk_cell h 3).trans rfl, (blk_cell h 4).trans rfl, c0⟩
  | 1, _ => exact ⟨a1, (blk_cell h 5).trans rfl, (blk_cell h 6).trans rfl, (blk_cell h 7).trans rfl, (blk_cell h 8).trans rfl, (blk_cell h 9).trans rfl, c1⟩
  | 2, _ => exact ⟨a2, (blk_cell h 10).trans rfl, (blk_cell h 11).trans rfl, (blk_cell h 12).trans rfl, (blk_cell h 13).trans rfl, (blk_cell h 14).trans rfl, c2⟩
  | 3, _ => exact ⟨a3, (blk_cell h 15).trans rfl, (blk_cell h 16).trans rfl, (blk_cell h 17).trans rfl, (blk_cell h 18).trans rfl, (blk_cell h 19).trans rfl, c3⟩
  | 4, _ => exact ⟨a4, (blk_cell h 20).trans rfl, (blk_cell h 21).trans rfl, (blk_cell h 22).trans rfl, (blk_cell h 23).trans rfl, (blk_cell h 24).trans rfl, c4⟩
  | 5, _ => exact ⟨a5, (blk_cell h 25).trans rfl, (blk_cell h 26).trans rfl, (blk_cell h 27).trans rfl, (blk_cell h 28).trans rfl, (blk_cell h 29).trans rfl, c5⟩
  | 6, _ => exact ⟨a6, (blk_cell h 30).trans rfl, (blk_cell h 31).trans rfl, (blk_cell h 32).trans rfl, (blk_cell h 33).trans rfl, (blk_cell h 34).trans rfl, c6⟩
  | 7, _ => exact ⟨a7, (blk_cell h 35).trans rfl, (blk_cell h 36).trans rfl, (blk_cell h 37).trans rfl, (blk_cell h 38).trans rfl, (blk_cell h 39).trans rfl, c7⟩
  | 8, _ => exact ⟨a8, (blk_cell h 40).trans rfl, (blk_cell h 41).trans rfl, (blk_cell h 42).trans rfl, (blk_cell h 43).trans rfl, (blk_cell h 44).trans rfl, c8⟩
  | 9, _ => exact ⟨a9, (blk_cell h 45).trans rfl, (blk_cell h 46).trans rfl, (blk_cell h 47).trans rfl, (blk_cell h 48).trans rfl, (blk_cell h 49).trans rfl, c9⟩
  | 10, _ => exact ⟨a10, (blk_cell h 50).trans rfl, (blk_cell h 51).trans rfl, (blk_cell h 52).trans rfl, (blk_cell h 53).trans rfl, (blk_cell h 54).trans rfl, c10⟩
  | 11, _ => exact ⟨a11, (blk_cell h 55).trans rfl, (blk_cell h 56).trans rfl, (blk_cell h 57).trans rfl, (blk_cell h 58).trans rfl, (blk_cell h 59).trans rfl, c11⟩
  | 12, _ => exact ⟨a12, (blk_cell h 60).trans rfl, (blk_cell h 61).trans rfl, (blk_cell h 62).trans rfl, (blk_cell h 63).trans rfl, (blk_cell h 64).trans rfl, c12⟩
  | 13, _ => exact ⟨a13, (blk_cell h 65).trans rfl, (blk_cell h 66).trans rfl, (blk_cell h 67).trans rfl, (blk_cell h 68).trans rfl, (blk_cell h 69).trans rfl, c13⟩
  | 14, _ => exact ⟨a14, (blk_cell h 70).trans rfl, (blk_cell h 71).trans rfl, (blk_cell h 72).trans rfl, (blk_cell h 73).trans rfl, (blk_cell h 74).trans rfl, c14⟩
  | 15, _ => exact ⟨a15, (blk_cell h 75).trans rfl, (blk_cell h 76).trans rfl, (blk_cell h 77).trans rfl, (blk_cell h 78).trans rfl, (blk_cell h 79).trans rfl, c15⟩
  | 16, _ => exact ⟨a16, (blk_cell h 80).trans rfl, (blk_cell h 81).trans rfl, (blk_cell h 82).trans rfl, (blk_cell h 83).trans rfl, (blk_cell h 84).trans rfl, c16⟩
  | 17, _ => exact ⟨a17, (blk_cell h 85).trans rfl, (blk_cell h 86).trans rfl, (blk_cell h 87).trans rfl, (blk_cell h 88).trans rfl, (blk_cell h 89).trans rfl, c17⟩
  | 18, _ => exact ⟨a18, (blk_cell h 90).trans rfl, (blk_cell h 91).trans rfl, (blk_cell h 92).trans rfl, (blk_cell h 93).trans rfl, (blk_cell h 94).trans rfl, c18⟩
  | 19, _ => exact ⟨a19, (blk_cell h 95).trans rfl, (blk_cell h 96).trans rfl, (blk_cell h 97).trans rfl, (blk_cell h 98).trans rfl, (blk_cell h 99).trans rfl, c19⟩
  | 20, _ => exact ⟨a20, (blk_cell h 100).trans rfl, (blk_cell h 101).trans rfl, (blk_cell h 102).trans rfl, (blk_cell h 103).trans rfl, (blk_cell h 104).trans rfl, c20⟩
  | 21, _ => exact ⟨a21, (blk_cell h 105).trans rfl, (blk_cell h 106).trans rfl, (blk_cell h 107).trans rfl, (blk_cell h 108).trans rfl, (blk_cell h 109).trans rfl, c21⟩
  | 22, _ => exact ⟨a22, (blk_cell h 110).trans rfl, (blk_cell h 111).trans rfl, (blk_cell h 112).trans rfl, (blk_cell h 113).trans rfl, (blk_cell h 114).trans rfl, c22⟩
  | 23, _ => exact ⟨a23, (blk_cell h 115).trans rfl, (blk_cell h 116).trans rfl, (blk_cell h 117).trans rfl, (blk_cell h 118).trans rfl, (blk_cell h 119).trans rfl, c23⟩
  | 24, _ => exact ⟨a24, (blk_cell h 120).trans rfl, (blk_cell h 121).trans rfl, (blk_cell h 122).trans rfl, (blk_cell h 123).trans rfl, (blk_cell h 124).trans rfl, c24⟩
  | 25, _ => exact ⟨a25, (blk_cell h 125).trans rfl, (blk_cell h 126).trans rfl, (blk_cell h 127).trans rfl, (blk_cell h 128).trans rfl, (blk_cell h 129).trans rfl, c25⟩
  | 26, _ => exact ⟨a26, (blk_cell h 130).trans rfl, (blk_cell h 131).trans rfl, (blk_cell h 132).trans rfl, (blk_cell h 133).trans rfl, (blk_cell h 134).trans rfl, c26⟩
  | 27, _ => exact ⟨a27, (blk_cell h 135).trans rfl, (blk_cell h 136).trans rfl, (blk_cell h 137).trans rfl, (blk_cell h 138).trans rfl, (blk_cell h 139).trans rfl, c27⟩
  | 28, _ => exact ⟨a28, (blk_cell h 140).trans rfl, (blk_cell h 141).trans rfl, (blk_cell h 142).trans rfl, (blk_cell h 143).trans rfl, (blk_cell h 144).trans rfl, c28⟩
  | n + 29, hi => exact absurd hi (by omega)

section
variable {P : Program} {ops : Array Oper} {rest : List Oper} {o : Oper} {a : Act} {Q : Exit → Act → World → Prop}
/-- A store of all cells of a block, as an event. -/
theorem put_event {W : World} (hgd : o.guard = none) {t : TypeId} {p x : Operand} (ho : o.op = .store t p x) (hN : o.dst = none) {g : Nat} {cur : Array Value} {seg : List Value} {u : Value} {e : TypeId}
    (haddr : a.eval p = .pointer (some ⟨g, 0, none⟩)) (hx : a.eval x = u) (hu : u.cells.toList = seg) (hh : W.heap[g]? = some (.cells cur e (0, 0))) (ht : (P.info? t).map (·.size) = some seg.length) (hfit : seg.length = cur.size) (h1 : ∀ q ∈ seg, q.oneCell' = true)
    (h : ∀ w', w'.heap[g]? = some (.cells seg.toArray e (0, 0)) → Mv g W w' → wpList P ops Q rest a w') : wpList P ops Q (o :: rest) a W := by
  refine wpList_plain hgd fun K hK => ?_
  have hrun : (Instr.storeAt t (.pointer (some ⟨g, 0, none⟩)) u).run P W = .ok () (W.setCells g 0 seg) := run_store_run t u seg hh hu ht (by omega) h1
  unfold Oper.wp execOp
  simp only [ho, haddr, hx, Sem.run_bind, Sem.run_pure, Result.andThen_ok, hrun]
  show K (a.put o.dst undef) _
  rw [hN]
  refine hK a _ (h _ ?_ ?_)
  · obtain ⟨cur', e1, e2, e3⟩ := setCells_row seg 0 W cur hh (by omega)
    rw [e1]
    have : cur' = seg.toArray := by
      apply Array.toList_inj.1
      rw [e3, List.take_zero, List.nil_append, List.drop_of_length_le (by rw [Array.length_toList]; omega), List.append_nil]
    rw [this]
  · obtain ⟨s1, s2, s3, s4⟩ := setCells_same g seg 0 W
    exact ⟨s1, s2, s3, Nat.le_of_eq s4.symm, fun k _ hk => setCells_far seg 0 k hk⟩
end

set_option maxHeartbeats 8000000 in
set_option maxRecDepth 100000 in
theorem two_any (s o : Int) (w : World) :
    Calls Tryd.prog 50 #[.int .i64 s, .int .i64 o] w fun e w' => e = .returned (.agg #[.int .i64 s, .bool false, .bool false, .slice (some ⟨w.heap.size + 1, 0, none⟩) 2 2, .bool false]) ∧ w' = (w.alloc (.cells #[.int .i64 s, .bool false, .bool false, .slice (some ⟨w.heap.size + 1, 0, none⟩) 2 2, .bool false] 61)).alloc (.cells #[.int .i64 o, .int .i64 o] 3) := by
  go_enter Tryd.func50, Tryd.ntmps50
  go_wp2
  exact bodyPost_ret (v := .agg #[.int .i64 s, .bool false, .bool false, .slice (some ⟨w.heap.size + 1, 0, none⟩) 2 2, .bool false]) (by simp [results, Tryd.results50, go_sem]) rfl ⟨rfl, rfl⟩

theorem two_row (s o : Int) (w : World) :
    Calls Tryd.prog 50 #[.int .i64 s, .int .i64 o] w fun e w' => ∃ g, e = .returned (.agg #[.int .i64 s, .bool false, .bool false, .slice (some ⟨g, 0, none⟩) 2 2, .bool false]) ∧ w'.heap[g]? = some (.cells #[.int .i64 o, .int .i64 o] 3 (0, 0)) ∧ Below w.heap.size w w' ∧ w.heap.size ≤ g := by
  refine (two_any s o w).mono ?_
  rintro e w' ⟨rfl, rfl⟩
  refine ⟨w.heap.size + 1, rfl, ?_, below_alloc (below_alloc (Below.refl _ _) _) _, by omega⟩
  have := blk_new (w.alloc (.cells #[.int .i64 s, .bool false, .bool false, .slice (some ⟨w.heap.size + 1, 0, none⟩) 2 2, .bool false] 61)) (.cells #[.int .i64 o, .int .i64 o] 3)
  simpa using this

/-- What shapes answers. -/
def ShapesPost (w : World) (e : Ending) (w' : World) : Prop := ∃ cells : Array Value, e = .returned (.agg cells) ∧ cells.size = 145 ∧ (∀ q ∈ cells.toList, q.oneCell' = true) ∧ Below w.heap.size w w' ∧ ∀ W g, Below w'.heap.size w' W → W.heap[g]? = some (.cells cells 62 (0, 0)) → TabAt W g

theorem blk_newk {w : World} {o : Obj} {k : Nat} (h : k = w.heap.size) : (w.alloc o).heap[k]? = some o := by subst h; exact blk_new w o
theorem bsize {B : Nat} {a w : World} (h : B ≤ a.heap.size) (hb : Below a.heap.size a w) : B ≤ w.heap.size := Nat.le_trans h hb.size
theorem bnext {B : Nat} {x a w : World} (h : Below B x a ∧ B ≤ a.heap.size) (hb : Below a.heap.size a w) : Below B x w ∧ B ≤ w.heap.size := ⟨h.1.trans (hb.mono h.2), Nat.le_trans h.2 hb.size⟩
theorem balloc {B : Nat} {x a : World} (h : Below B x a ∧ B ≤ a.heap.size) (o : Obj) : Below B x (a.alloc o) ∧ B ≤ (a.alloc o).heap.size := ⟨h.1.alloc h.2 o, by simp; omega⟩

end Go.Proofs.YthckboogibhjaaaDoor.Trm
