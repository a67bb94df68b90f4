/- The plain law of WholePoint. -/
import Derived.Test.YtmcfcmijopbinaaPWholePointx1
import Derived.Test.YtmcfcmijopbinaaWhX
namespace Go.Proofs.Ytmcfcmijopbinaa.Pure
open Go.RowKit Go.Proofs.Ytmcfcmijopbinaa.PWholePoint Go.Proofs.Ytmcfcmijopbinaa.Ln Go.Proofs.Ytmcfcmijopbinaa.Lin Go.Proofs.YtmcfcmijopbinaaW.PrintWords Go.Proofs.YtmcfcmijopbinaaW.PrintLast Go.Proofs.Ytmcfcmijopbinaa.Given Go.Proofs.Ytmcfcmijopbinaa.Num
set_option linter.unusedVariables false
set_option linter.unusedSimpArgs false

theorem sol_is {rows : List S25} {v : Int} {z : List RowZ} (hz : rows.map toZ = z) (hin : ∀ r, r ∈ rows → RowIn r) (hl : rows.length ≤ 99000) : whole_Solve.f rows v 1000 = some (wsolve z v 1000 (chkW z)) := by
  unfold whole_Solve.f
  rw [hz, if_pos]
  exact ⟨⟨hin, by decide⟩, by show rows.length + 1000 ≤ 100000; omega⟩
/-- The rows that keep the unknowns. -/
def tS (n : Nat) (c : Nat → Int) : Nat → List S25
  | 0 => []
  | m + 1 => tS n c m ++ [⟨(List.replicate n (0 : Int)).set m 1, -(c m)⟩, ⟨(List.replicate n (0 : Int)).set m (-1), c m⟩]
theorem tS_len (n : Nat) (c : Nat → Int) : ∀ m, (tS n c m).length = 2 * m
  | 0 => rfl
  | m + 1 => by rw [tS, List.length_append, tS_len n c m]; simp; omega
theorem tS_z (n : Nat) (c : Nat → Int) : ∀ m, (tS n c m).map toZ = twoZ n c c m
  | 0 => rfl
  | m + 1 => by rw [tS, twoZ, List.map_append, tS_z n c m]; rfl
theorem tS_in {n : Nat} {c : Nat → Int} (hc : ∀ k, (c k).natAbs ≤ 2) : ∀ m r, r ∈ tS n c m → RowIn r
  | 0, r, h => by cases h
  | m + 1, r, h => by
    have := hc m
    rw [tS] at h
    rcases List.mem_append.1 h with h | h
    · exact tS_in hc m r h
    · simp only [List.mem_cons, List.not_mem_nil, or_false] at h
      rcases h with rfl | rfl
      · exact bnd_in (by decide) ⟨by omega, by omega⟩
      · exact bnd_in (by decide) ⟨by omega, by omega⟩
def mS (n : Nat) (s : Int) (i : Nat) : List Int := List.replicate i s ++ List.replicate (n - i) 0
theorem mS_len {n i : Nat} (s : Int) (h : i ≤ n) : (mS n s i).length = n := by unfold mS; simp; omega
theorem mS_set {n i : Nat} (s : Int) (h : i < n) : (mS n s i).set i s = mS n s (i + 1) := by
  unfold mS
  rw [List.set_append_right _ _ (by simp), List.length_replicate, Nat.sub_self, show n - i = (n - (i + 1)) + 1 by omega, List.replicate_succ, List.set_cons_zero, List.replicate_succ', List.append_assoc]
  rfl
theorem mS_all (n : Nat) (s : Int) : mS n s n = List.replicate n s := by unfold mS; simp
theorem rd_at (l : List Int) (i : Nat) : rd l (i : Int) = l.getD i 0 := by unfold rd; rw [Int.toNat_natCast]

section
variable {l : List Int} {n : Nat} {c : Nat → Int}
theorem pt_loop (hn3 : n ≤ 3) (hnl : n ≤ l.length) (hcl : ∀ k, (l.getD k 0).tmod 3 = c k) (hc : ∀ k, (c k).natAbs ≤ 2) (k : Nat) : ∀ d i, i + d = n →
    ashlarlaw12_WholePoint.l0 (k + d) l true (n : Int) (tS n c i) (i : Int) (mS n (-1) i) (1 + sumI c i) (mS n 1 i) (-(sumI c i)) = ashlarlaw12_WholePoint.l0 k l true (n : Int) (tS n c n) (n : Int) (mS n (-1) n) (1 + sumI c n) (mS n 1 n) (-(sumI c n))
  | 0, i, h => by
    obtain rfl : i = n := by omega
    rfl
  | d + 1, i, h => by
    rw [← pt_loop hn3 hnl hcl hc k d (i + 1) (by omega)]
    have hci := hc i
    have hsi := sumI_le hc i
    have w1 : wrap64 (-(c i)) = -(c i) := wrap64_in ⟨by omega, by omega⟩
    have w2 : wrap64 ((i : Int) + 1) = ((i + 1 : Nat) : Int) := by rw [wrap64_in ⟨by omega, by omega⟩]; rfl
    have w3 : wrap64 (1 + sumI c i + c i) = 1 + sumI c (i + 1) := by rw [wrap64_in ⟨by omega, by omega⟩, sumI]; omega
    have w4 : wrap64 (-(sumI c i) - c i) = -(sumI c (i + 1)) := by rw [wrap64_in ⟨by omega, by omega⟩, sumI]; omega
    have l1 := mS_len (n := n) (i := i) (-1) (by omega)
    have l2 := mS_len (n := n) (i := i) 1 (by omega)
    show ashlarlaw12_WholePoint.l0 ((k + d) + 1) l true (n : Int) (tS n c i) (i : Int) (mS n (-1) i) (1 + sumI c i) (mS n 1 i) (-(sumI c i)) = _
    rw [ashlarlaw12_WholePoint.l0, if_pos (by omega), if_pos (by omega), if_pos (by omega), if_pos (by omega), if_pos (by omega), Option.bind_some, Option.bind_some, Int.toNat_natCast, Int.toNat_natCast, if_pos (by rw [List.length_replicate]; omega), if_pos (by rw [List.length_replicate]; omega), Option.bind_some, rd_at, hcl, w1, w2, w3, w4, mS_set (-1) (by omega), mS_set 1 (by omega), if_pos (by rw [tS_len]; simp; omega), if_pos (by rw [l1]; omega), if_pos (by rw [l2]; omega)]
    rfl
theorem pt_loop2 {p m1 m2 : List Int} {k1 k2 : Int} {rows : List S25} (hp : p.length = n) (hnl : n ≤ l.length) (hn3 : n ≤ 3) (hcl : ∀ k, (l.getD k 0).tmod 3 = c k) (hpc : ∀ k, k < n → p.getD k 0 = c k) (k : Nat) : ∀ d i, i + d = n →
    ashlarlaw12_WholePoint.l1 (k + d) l true (n : Int) rows p (i : Int) m1 k1 m2 k2 = ashlarlaw12_WholePoint.l1 k l true (n : Int) rows p (n : Int) m1 k1 m2 k2
  | 0, i, h => by
    obtain rfl : i = n := by omega
    rfl
  | d + 1, i, h => by
    rw [← pt_loop2 hp hnl hn3 hcl hpc k d (i + 1) (by omega)]
    have w2 : wrap64 ((i : Int) + 1) = ((i + 1 : Nat) : Int) := by rw [wrap64_in ⟨by omega, by omega⟩]; rfl
    show ashlarlaw12_WholePoint.l1 ((k + d) + 1) l true (n : Int) rows p (i : Int) m1 k1 m2 k2 = _
    rw [ashlarlaw12_WholePoint.l1, if_pos (by omega), if_pos (by omega), if_pos (by omega), if_pos (by omega), rd_at, rd_at, hcl, hpc i (by omega), if_pos rfl, w2]
end
theorem mn_nat (a : Nat) : mn (a : Int) 3 = ((min a 3 : Nat) : Int) := by
  unfold mn
  split <;> omega

theorem WholePoint : ashlarlaw12_WholePoint.Pure := by
  intro l hm hy hw
  obtain ⟨n, hn⟩ : ∃ n, min l.length 3 = n := ⟨_, rfl⟩
  have hn3 : n ≤ 3 := by omega
  have hnl : n ≤ l.length := by omega
  obtain ⟨c, hcd⟩ : ∃ c : Nat → Int, ∀ k, (l.getD k 0).tmod 3 = c k := ⟨fun k => (l.getD k 0).tmod 3, fun _ => rfl⟩
  have hc : ∀ k, (c k).natAbs ≤ 2 := fun k => by
    rw [← hcd k]
    have h1 := Int.tmod_lt_of_pos (l.getD k 0) (show (0 : Int) < 3 by decide)
    have h2 := Int.lt_tmod_of_pos (l.getD k 0) (show (0 : Int) < 3 by decide)
    omega
  refine ⟨(n + 3) + n, ?_⟩
  unfold ashlarlaw12_WholePoint.f
  rw [mn_nat, hn, show ashlarlaw12_shown.f = some true from rfl, Option.bind_some, if_pos (by omega), if_pos (by omega), Int.toNat_natCast]
  have hstart := pt_loop (l := l) hn3 hnl hcd hc (n + 3) n 0 (by omega)
  have e0 : mS n (-1) 0 = List.replicate n 0 := by unfold mS; simp
  have e1 : mS n 1 0 = List.replicate n 0 := by unfold mS; simp
  rw [e0, e1] at hstart
  have h0 : ashlarlaw12_WholePoint.l0 (n + 3 + n) l true (n : Int) [] 0 (List.replicate n 0) 1 (List.replicate n 0) 0 = _ := hstart
  rw [h0, mS_all, mS_all]
  obtain ⟨⟨p, hs1, hpl, hpc⟩, hs2, hs3⟩ := point_law hn3 hc
  have hsum := sumI_le hc n
  have hz : (tS n c n).map toZ = ptZ n c := tS_z n c n
  have hS1 := sol_is (v := (n : Int)) hz (tS_in hc n) (by rw [tS_len]; omega)
  have hlast : ∀ s k : Int, s.natAbs ≤ 1 → k.natAbs ≤ 9 → whole_Solve.f (([] ++ tS n c n) ++ [⟨List.replicate n s, k⟩]) (n : Int) 1000 = some (wsolve (ptZ n c ++ [(List.replicate n s, k)]) n 1000 (chkW (ptZ n c ++ [(List.replicate n s, k)]))) := fun s k h1 h2 => by
    refine sol_is (by rw [List.nil_append, List.map_append, hz]; rfl) (fun r hr => ?_) (by rw [List.nil_append, List.length_append, tS_len]; simp; omega)
    rw [List.nil_append] at hr
    rcases List.mem_append.1 hr with hr | hr
    · exact tS_in hc n r hr
    · rw [List.mem_singleton.1 hr]
      exact ⟨⟨by dsimp only; omega, by dsimp only; omega⟩, fun x hx => by rw [List.eq_of_mem_replicate hx]; exact ⟨by omega, by omega⟩⟩
  have hS2 := hlast (-1) (1 + sumI c n) (by decide) (by omega)
  have hS3 := hlast 1 (-(sumI c n)) (by decide) (by omega)
  show ashlarlaw12_WholePoint.l0 ((n + 2) + 1) l true (n : Int) (tS n c n) (n : Int) (List.replicate n (-1)) (1 + sumI c n) (List.replicate n 1) (-(sumI c n)) = _
  rw [ashlarlaw12_WholePoint.l0, if_neg (by omega), hS1, hs1, Option.bind_some]
  dsimp only
  rw [if_pos rfl, hpl, show (((n : Int)) != (n : Int)) = false by simp]
  show ashlarlaw12_WholePoint.j1 ((n + 1) + 1) l true (n : Int) (tS n c n) p false (List.replicate n (-1)) (1 + sumI c n) (List.replicate n 1) (-(sumI c n)) = _
  rw [ashlarlaw12_WholePoint.j1, if_neg (by decide), Nat.add_comm n 1]
  have h1 : ashlarlaw12_WholePoint.l1 (1 + n) l true (n : Int) (tS n c n) p 0 (List.replicate n (-1)) (1 + sumI c n) (List.replicate n 1) (-(sumI c n)) = _ := pt_loop2 hpl hnl hn3 hcd hpc 1 n 0 (by omega)
  rw [h1, ashlarlaw12_WholePoint.l1, if_neg (by omega), Option.bind_some, if_pos (by rw [tS_len]; simp; omega), Option.bind_some, Option.bind_some, if_pos (by rw [List.nil_append, tS_len]; simp; omega), hS2, Option.bind_some, Option.bind_some, if_pos (by rw [tS_len]; simp; omega), Option.bind_some, Option.bind_some, if_pos (by rw [List.nil_append, tS_len]; simp; omega), hS3, Option.bind_some, if_pos rfl, if_pos hs2, hs3]
  rfl

end Go.Proofs.Ytmcfcmijopbinaa.Pure
