/- cnf's maker: adding a clause. -/
import Derived.Test.YthckboogibhjaaaDoorTrmG
import Derived.Test.YthckboogibhjaaaDoorWNEv
namespace Go.Proofs.YthckboogibhjaaaDoor.Trm
set_option linter.unusedVariables false
set_option linter.unusedSimpArgs false
open Go.RowKit Go.Proofs.YthckboogibhjaaaDoorW.PrintWords Go.Proofs.YthckboogibhjaaaDoorW.PrintMore

theorem infoInts : (Tryd.prog.info? 32).map (fun i => (i.zero, i.size, i.bytes)) = some (some (.slice none 0 0), 1, 24) := by kernel_rfl

set_option maxHeartbeats 4000000 in
set_option maxRecDepth 100000 in
/-- (*maker).add: vc is the row of the clauses; ok leaves the maker's own block out. -/
theorem add_any (mb : Nat) (va vc : Value) (vars : Int) (cls : List (List Int)) (c : List Int) (Al : Option Addr) (cl : Nat) (base : Nat) (ok okp : Nat → Prop) (w0 w : World)
    (hm : w.heap[mb]? = some (.cells #[va, .int .i64 vars, vc] 47 (0, 0)))
    (hN : Kd.N (Kd.slice 3 (Kd.int .i64)) 32 w base ok vc cls) (hmb : ¬ ok mb) (hF : Kd.FK (Kd.slice 3 (Kd.int .i64)) w okp c [.slice Al c.length cl]) (hokp : ∀ k, okp k → ok k ∧ some k ≠ vc.ownBlock) (hfresh : ∀ k, w.heap.size ≤ k → ok k)
    (hB : Below base w0 w) (hbase : base ≤ w.heap.size) (hbm : base ≤ mb) (hlen : cls.length ≤ 1000000) :
    Calls Tryd.prog 27 #[.pointer (some ⟨mb, 0, none⟩), .slice Al c.length cl] w fun e w' => e = .returned (.tuple #[]) ∧ ∃ v1, w'.heap[mb]? = some (.cells #[va, .int .i64 vars, v1] 47 (0, 0)) ∧ Kd.N (Kd.slice 3 (Kd.int .i64)) 32 w' base ok v1 (cls ++ [c]) ∧ Below base w0 w' ∧ (v1.ownBlock = vc.ownBlock ∨ ∃ b, v1.ownBlock = some b ∧ w.heap.size ≤ b) ∧ (∀ k, k < w.heap.size → k ≠ mb → some k ≠ vc.ownBlock → w'.heap[k]? = w.heap[k]?) ∧ w.heap.size ≤ w'.heap.size := by
  obtain ⟨a0, k0, rfl⟩ := Kd.N_slice hN
  have hne : some mb ≠ (.slice a0 cls.length k0 : Value).ownBlock := fun h => hmb (hN.1 mb h.symm)
  have p2 : w.cell? ⟨mb, 2, none⟩ = some (.slice a0 cls.length k0) := (blk_cell hm 2).trans rfl
  have zm := blk_lt hm
  have HM := Lib.hid hm
  have HN := Lib.hid hN
  have HF := Lib.hid hF
  have HP := Lib.hid hokp
  have HFR := Lib.hid hfresh
  have HB := Lib.hid hB
  have HMB := Lib.hid hmb
  have HNE := Lib.hid hne
  clear hm hN hF hokp hfresh hB hmb hne
  go_enter Tryd.func27, Tryd.ntmps27
  go_wp2_with (first | ((with_reducible refine gate_dst (N := 11) rfl ?_); refine Hid.out ?_))
  refine Lib.hid ?_
  refine Kd.N_append (Kd.slice 3 (Kd.int .i64)) (w0 := w0) base rfl (.tmp 8) (.tmp 10) 26 32 (.slice none 0 0) 24 rfl Tryd.underlying26 infoInts rfl (by decide) (by omega) (.slice a0 cls.length k0) cls c [.slice Al c.length cl] ok okp rfl rfl HF.out HP.out HFR.out HN.out HB.out hbase (by omega) ?_
  intro v1 w1 hN1 hB1 hg hat
  obtain ⟨a1, k1, rfl⟩ := Kd.N_slice hN1
  have el : (cls ++ [c]).length = cls.length + 1 := by simp
  rw [el] at hN1 hat
  clear el
  have m1 := blk_grown HM.out hg HNE.out
  have q2 := blk_frozen m1 2
  have q3 : (w1.cell? ⟨mb, 2, none⟩) = some (.slice a0 cls.length k0) := (blk_cell m1 2).trans rfl
  have HN1 := Lib.hid hN1
  have HB1 := Lib.hid hB1
  have HG := Lib.hid hg
  have HA := Lib.hid hat
  have M1 := Lib.hid m1
  clear hN1 hB1 hg hat m1
  go_wp2
  refine bodyPost_end (v := .tuple #[]) (by simp [results, Tryd.results27, go_sem]) rfl ⟨rfl, .slice a1 (cls.length + 1) k1, blk_put M1.out 2 _ rfl, Kd.N_far HN1.out (fun k hk he => HMB.out (by rw [← show k = mb from he]; exact hk)) _, HB1.out.setCell hbm _, HA.out, fun k hk h1 h2 => (Below.heap_setCell _ _ _ _ h1).trans (HG.out.block k hk h2), ?_⟩
  have := HG.out.size
  simp [World.setCell]; exact this
end Go.Proofs.YthckboogibhjaaaDoor.Trm
