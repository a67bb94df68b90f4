import Derived.Test.YtdkbnbebioflaaaLnK
import Derived.Laws.OwnMore
import Derived.Test.YtdkbnbebioflaaaLnS1
section
/- A row that came is appended to a row of the call's own: cell by cell; what is read of it then. -/
namespace Go.Proofs.Ytdkbnbebioflaaa.Ln
open Go.RowKit Go.Proofs.Ytdkbnbebioflaaa.Num Go.Proofs.Ytdkbnbebioflaaa.Given Go.Proofs.YtdkbnbebioflaaaW.PrintWords
set_option linter.unusedVariables false
set_option linter.unusedSimpArgs false
theorem run_app_none {P : Program} {w : World} (base : Nat) (t ty e : TypeId) (i : TypeInfo) (size : Nat) (ht : P.underlying t = some (.slice e)) (hi : P.info? e = some i)
  (v : Value) (n c : Nat) (xs : List Value) (hown : w.ownsRow base e size v n xs) :
  (Builtin.append_ #[t, t] ty #[v, .slice none 0 c]).run P w = .ok v w := by
 rcases hown.2 with ⟨rfl, rfl⟩ | ⟨g, cap, cur, rfl, _, _, hnc, _⟩
 ·simp [Builtin.append_, run_underlying ht, sizeOf, typeInfo, hi, Builtin.lenOf, Builtin.firstCells]
 ·simp [Builtin.append_, run_underlying ht, sizeOf, typeInfo, hi, Builtin.lenOf, Builtin.firstCells, hnc, storeCells]
structure Raw (w : World) (A : Option Addr) (n size : Nat) (news : List Value) : Prop where
 len : news.length = n * size
 nil : A = none → n = 0
 cell : ∀ ad, A = some ad → ∀ j u, news[j]? = some u → w.cell? (ad.add j) = some u
 one : ∀ u, u ∈ news → u.oneCell' = true
theorem Raw.below {w w1 : World} {A : Option Addr} {n size : Nat} {news : List Value} (h : Raw w A n size news) (hb : Below w.heap.size w w1) : Raw w1 A n size news :=
 ⟨h.len, h.nil, fun ad e j u hj => kcell hb (h.cell ad e j u hj), h.one⟩
theorem wp_appR {P : Program} {w : World} {o : Oper} {a : Act} {K : Act → World → Prop} {Q : Exit → Act → World → Prop} (s x : Operand) (t : TypeId)
  (ho : o.op = .call { callee := .builtin .append, args := #[s, x], argTypes := #[t, t] })
  (base : Nat) (e : TypeId) (z : Value) (size bytes : Nat) (ht : P.underlying t = some (.slice e)) (hi : (P.info? e).map (fun i => (i.zero, i.size, i.bytes)) = some (some z, size, bytes)) (hzs : z.cells.size = size) (hsz : 0 < size)
  (v : Value) (n : Nat) (xs : List Value) (hs : a.eval s = v) (hown : w.ownsRow base e size v n xs)
  (A : Option Addr) (m c : Nat) (news : List Value) (hx : a.eval x = .slice A m c) (hr : Raw w A m size news)
  (h63 : n + m ≤ maxLen) (hbytes : (n + m) * bytes ≤ 140737488355328) (hbase : base ≤ w.heap.size)
  (h : ∀ v' w', Hid (w'.ownsRow base e size v' (n + m) (xs ++ news)) → w.grownBy w' v.ownBlock → K (a.put o.dst v') w') : o.wp P a w K Q := by
 cases hq : P.info? e with
 | none => rw [hq] at hi; cases hi
 | some i =>
  rw [hq] at hi
  injection hi with hi
  injection hi with h2 h3
  injection h3 with h3 h4
  cases A with
  | some ad => exact wp_append_own w s x t ho base e i z size bytes ht hq h2 h3 h4 hzs hsz v n xs hs hown ad m c news hx hr.len (hr.cell ad rfl) hr.one h63 hbytes hbase fun v' w' a1 a2 _ => h v' w' a1 a2
  | none =>
   have hm := hr.nil rfl
   subst hm
   have hn : news = [] := List.eq_nil_of_length_eq_zero (by rw [hr.len]; omega)
   subst hn
   have hrun := run_app_none (P := P) (w := w) base t o.type e i size ht hq v n c xs hown
   unfold Oper.wp
   simp [execOp, ho, resolve, invoke, builtin, hs, hx, hrun, Result.andThen]
   exact h v w (by rw [List.append_nil]; exact Lib.hid hown) ⟨rfl, rfl, rfl, Nat.le_refl _, fun _ _ _ => rfl⟩
theorem step_appR {P : Program} {ops : Array Oper} {o : Oper} {a : Act} {w : World} {K : Act → World → Prop} {Q : Exit → Act → World → Prop} {E : Prop} (hgd : o.guard = none) (s x : Operand) (t : TypeId)
  (ho : o.op = .call { callee := .builtin .append, args := #[s, x], argTypes := #[t, t] })
  (base : Nat) (e : TypeId) (z : Value) (size bytes : Nat) (ht : P.underlying t = some (.slice e)) (hi : (P.info? e).map (fun i => (i.zero, i.size, i.bytes)) = some (some z, size, bytes)) (hzs : z.cells.size = size) (hsz : 0 < size)
  (v : Value) (n : Nat) (xs : List Value) (hs : a.eval s = v) (hown : w.ownsRow base e size v n xs)
  (A : Option Addr) (m c : Nat) (news : List Value) (hx : a.eval x = .slice A m c) (hr : Raw w A m size news)
  (h63 : n + m ≤ maxLen) (hbytes : (n + m) * bytes ≤ 140737488355328) (hbase : base ≤ w.heap.size)
  (h : ∀ v' w', Hid (w'.ownsRow base e size v' (n + m) (xs ++ news)) → w.grownBy w' v.ownBlock → K (a.put o.dst v') w') :
  if Region.wanted o (yielded ops a.tmps) = true then Oper.wp P o a w K Q else E := by
 rw [if_pos (show Region.wanted o (yielded ops a.tmps) = true by simp [Region.wanted, hgd])]
 exact wp_appR s x t ho base e z size bytes ht hi hzs hsz v n xs hs hown A m c news hx hr h63 hbytes hbase h
def Enc {α : Type} (d : Kd α) (w : World) (xs : List α) (raws : List Value) : Prop := raws.length = xs.length * d.sz ∧ ∀ j p, xs[j]? = some p → ∃ cs, cs.length = d.sz ∧ d.K w p cs ∧ ∀ i u, cs[i]? = some u → raws[j * d.sz + i]? = some u
theorem Enc.below {α : Type} {d : Kd α} {w w1 : World} {xs : List α} {raws : List Value} (h : Enc d w xs raws) (hb : Below w.heap.size w w1) : Enc d w1 xs raws :=
 ⟨h.1, fun j p hj => by obtain ⟨cs, a, b, c⟩ := h.2 j p hj; exact ⟨cs, a, d.K_below hb b, c⟩⟩
theorem Enc.app {α : Type} {d : Kd α} {w : World} {xs ys : List α} {r1 r2 : List Value} (h1 : Enc d w xs r1) (h2 : Enc d w ys r2) : Enc d w (xs ++ ys) (r1 ++ r2) := by
 refine ⟨by rw [List.length_append, List.length_append, h1.1, h2.1, Nat.add_mul], fun j p hj => ?_⟩
 by_cases hlt : j < xs.length
 ·rw [List.getElem?_append_left hlt] at hj
  obtain ⟨cs, a, b, c⟩ := h1.2 j p hj
  refine ⟨cs, a, b, fun i u hu => ?_⟩
  have h3 := c i u hu
  rw [List.getElem?_append_left (List.getElem?_eq_some_iff.1 h3).1]
  exact h3
 ·rw [List.getElem?_append_right (Nat.le_of_not_lt hlt)] at hj
  obtain ⟨cs, a, b, c⟩ := h2.2 _ p hj
  refine ⟨cs, a, b, fun i u hu => ?_⟩
  have h3 := c i u hu
  have e : j * d.sz + i = r1.length + ((j - xs.length) * d.sz + i) := by
   rw [h1.1, Nat.sub_mul]
   have := Nat.mul_le_mul_right d.sz (Nat.le_of_not_lt hlt)
   omega
  rw [e, List.getElem?_append_right (Nat.le_add_right _ _), Nat.add_sub_cancel_left]
  exact h3
theorem Enc.one {α : Type} {d : Kd α} {w : World} {x : α} {cs : List Value} (hl : cs.length = d.sz) (h : d.K w x cs) : Enc d w [x] cs := by
 refine ⟨by rw [hl, List.length_singleton, Nat.one_mul], fun j p hj => ?_⟩
 match j, hj with
 | 0, hj => obtain rfl := Option.some.inj hj; exact ⟨cs, hl, h, fun i u hu => by rw [Nat.zero_mul, Nat.zero_add]; exact hu⟩
theorem Enc.nil {α : Type} (d : Kd α) (w : World) : Enc d w [] [] := ⟨by rw [List.length_nil, List.length_nil, Nat.zero_mul], fun j p hj => by cases hj⟩
theorem flatten_get {sz : Nat} : ∀ (L : List (List Value)), (∀ c, c ∈ L → c.length = sz) → ∀ j c, L[j]? = some c → ∀ i u, c[i]? = some u → L.flatten[j * sz + i]? = some u
 | a :: L, h, 0, c, hj, i, u, hu => by
  obtain rfl := Option.some.inj hj
  rw [Nat.zero_mul, Nat.zero_add, List.flatten_cons, List.getElem?_append_left (List.getElem?_eq_some_iff.1 hu).1]
  exact hu
 | a :: L, h, j + 1, c, hj, i, u, hu => by
  have hl := h a (List.mem_cons_self ..)
  rw [List.flatten_cons, List.getElem?_append_right (by rw [hl, Nat.add_mul]; omega), hl, show (j + 1) * sz + i - sz = j * sz + i by rw [Nat.add_mul]; omega]
  exact flatten_get L (fun c hc => h c (List.mem_cons_of_mem _ hc)) j c (by simpa using hj) i u hu
theorem flatten_len {sz : Nat} : ∀ (L : List (List Value)), (∀ c, c ∈ L → c.length = sz) → L.flatten.length = L.length * sz
 | [], h => by simp
 | a :: L, h => by rw [List.flatten_cons, List.length_append, h a (List.mem_cons_self ..), flatten_len L (fun c hc => h c (List.mem_cons_of_mem _ hc)), List.length_cons, Nat.add_mul]; omega
theorem chooseL {R : Nat → List Value → Prop} {n : Nat} (h : ∀ j, j < n → ∃ c, R j c) : ∃ f : Nat → List Value, ∀ j, j < n → R j (f j) := by
 induction n with
 | zero => exact ⟨fun _ => [], fun j hj => absurd hj (Nat.not_lt_zero _)⟩
 | succ n ih =>
  obtain ⟨f, hf⟩ := ih (fun j hj => h j (by omega))
  obtain ⟨c, hc⟩ := h n (by omega)
  refine ⟨fun j => if j = n then c else f j, fun j hj => ?_⟩
  dsimp only
  by_cases e : j = n
  ·rw [if_pos e, e]; exact hc
  ·rw [if_neg e]; exact hf j (by omega)
theorem raw_of {α : Type} {d : Kd α} (h1 : ∀ w x cs, d.K w x cs → ∀ u, u ∈ cs → u.oneCell' = true) {w : World} {A : Option Addr} {xs : List α} (h : d.C w A xs.length xs) (hsz : 0 < d.sz) : ∃ news, Raw w A xs.length d.sz news ∧ Enc d w xs news := by
 obtain ⟨-, hm, hc⟩ := h
 by_cases h0 : 0 < xs.length
 ·obtain ⟨ad, rfl, hj⟩ := hc h0
  have hex : ∀ j, j < xs.length → ∃ cs, cs.length = d.sz ∧ (∃ p, xs[j]? = some p ∧ d.K w p cs) ∧ ∀ i u, cs[i]? = some u → w.cell? (ad.add (j * d.sz + i)) = some u := fun j hlt => by
   obtain ⟨cs, a, b, c⟩ := hj j xs[j] (List.getElem?_eq_getElem hlt)
   exact ⟨cs, a, ⟨_, List.getElem?_eq_getElem hlt, b⟩, c⟩
  obtain ⟨f, hf⟩ := chooseL hex
  have hL : ∀ c, c ∈ (List.range xs.length).map f → c.length = d.sz := fun c hc => by
   obtain ⟨j, hj, rfl⟩ := List.mem_map.1 hc
   exact (hf j (List.mem_range.1 hj)).1
  have hlen : ((List.range xs.length).map f).flatten.length = xs.length * d.sz := by rw [flatten_len _ hL]; simp
  have hget : ∀ j, j < xs.length → ∀ i u, (f j)[i]? = some u → ((List.range xs.length).map f).flatten[j * d.sz + i]? = some u := fun j hlt i u hu => flatten_get _ hL j (f j) (by simp [hlt]) i u hu
  refine ⟨((List.range xs.length).map f).flatten, ⟨hlen, fun e => (by cases e), ?_, ?_⟩, hlen, ?_⟩
  ·intro ad' ead k u hk
   obtain rfl := Option.some.inj ead
   have hkl := (List.getElem?_eq_some_iff.1 hk).1
   rw [hlen] at hkl
   have hq : k / d.sz < xs.length := Nat.div_lt_of_lt_mul (by rw [Nat.mul_comm]; exact hkl)
   have hr : k % d.sz < d.sz := Nat.mod_lt _ hsz
   have e : k / d.sz * d.sz + k % d.sz = k := by rw [Nat.mul_comm]; exact Nat.div_add_mod _ _
   obtain ⟨a, b, c⟩ := hf _ hq
   have hu2 := hget _ hq (k % d.sz) _ (List.getElem?_eq_getElem (by rw [a]; exact hr))
   rw [e, hk] at hu2
   have := c (k % d.sz) u (by rw [List.getElem?_eq_getElem (by rw [a]; exact hr)]; exact hu2.symm)
   rw [e] at this
   exact this
  ·intro u hu
   obtain ⟨c, hc, hu⟩ := List.mem_flatten.1 hu
   obtain ⟨j, hj, rfl⟩ := List.mem_map.1 hc
   obtain ⟨-, ⟨p, -, hK⟩, -⟩ := hf j (List.mem_range.1 hj)
   exact h1 w p _ hK u hu
  ·intro j p hp
   have hlt := (List.getElem?_eq_some_iff.1 hp).1
   obtain ⟨a, ⟨q, hq, hK⟩, c⟩ := hf j hlt
   rw [hp] at hq
   obtain rfl := Option.some.inj hq
   exact ⟨f j, a, hK, hget j hlt⟩
 ·obtain rfl : xs = [] := List.eq_nil_of_length_eq_zero (by omega)
  exact ⟨[], ⟨by simp, fun _ => rfl, (fun _ _ j u hj => by cases hj), (fun u hu => by cases hu)⟩, Enc.nil d w⟩
theorem own_C {α : Type} {d : Kd α} {w : World} {base : Nat} {e : TypeId} {v : Value} {n : Nat} {raws : List Value} {xs : List α} (h : w.ownsRow base e d.sz v n raws) (he : Enc d w xs raws) (hn : xs.length = n) (hm : n ≤ maxLen) :
  ∃ A c, v = .slice A n c ∧ n ≤ c ∧ d.C w A n xs := by
 rcases h.2 with ⟨rfl, rfl⟩ | ⟨g, cap, cur, rfl, -, hb, hle, -, hs, ht⟩
 ·obtain rfl : xs = [] := List.eq_nil_of_length_eq_zero hn
  exact ⟨none, 0, rfl, Nat.le_refl _, Kd.C_nil d w⟩
 ·refine ⟨_, cap, rfl, hle, hn, by unfold maxLen at hm; omega, fun _ => ⟨_, rfl, fun j p hj => ?_⟩⟩
  obtain ⟨cs, h1, h2, h3⟩ := he.2 j p hj
  refine ⟨cs, h1, h2, fun i u hu => ?_⟩
  have e : (⟨g, 0, none⟩ : Addr).add (j * d.sz + i) = ⟨g, j * d.sz + i, none⟩ := by rw [Addr.add_lit, Nat.zero_add]
  rw [e, blk_cell hb]
  have h4 := h3 i u hu
  rw [← ht, List.getElem?_take] at h4
  split at h4
  ·simpa using h4
  ·cases h4
theorem row_one (w : World) (x : S38) (cs : List Value) (h : k38.K w x cs) : ∀ u, u ∈ cs → u.oneCell' = true := by
 obtain ⟨A, c, rfl, -, -⟩ := k38_open h
 intro u hu
 simp only [List.mem_cons, List.not_mem_nil, or_false] at hu
 rcases hu with rfl | rfl <;> rfl
theorem int_one (w : World) (x : Int) (cs : List Value) (h : (Kd.int .i64).K w x cs) : ∀ u, u ∈ cs → u.oneCell' = true := by
 obtain rfl : cs = [.int .i64 x] := h
 intro u hu
 simp only [List.mem_cons, List.not_mem_nil, or_false] at hu
 subst hu; rfl
end Go.Proofs.Ytdkbnbebioflaaa.Ln
end

section
/- Plain: what Solve answers is checked, and fits. -/
namespace Go.Proofs.Ytdkbnbebioflaaa.Ln
open Go.RowKit Go.Proofs.Ytdkbnbebioflaaa.Num Go.Proofs.Ytdkbnbebioflaaa.Given Go.Proofs.Ytdkbnbebioflaaa.Lin Go.Proofs.YtdkbnbebioflaaaW.PrintWords
set_option linter.unusedVariables false
theorem solve_cases (z : List RowZ) (v f : Int) : (solve z v f = (0, [], []) ∧ True) ∨ (mayQ z v = true ∧ ∃ a p w, (made z v.toNat).bind (loop v.toNat f.toNat) = some (a, p, w) ∧ solve z v f = (a, p, w) ∧ ¬ (a = 1 ∧ checkPoint z p = false ∨ a = 2 ∧ checkFarkas z w = false)) := by
 unfold solve
 by_cases hm : mayQ z v = true
 ·rw [if_pos hm]
  cases ho : (made z v.toNat).bind (loop v.toNat f.toNat) with
  | none => exact .inl ⟨rfl, trivial⟩
  | some s =>
   obtain ⟨a, p, w⟩ := s
   dsimp only
   by_cases hc : a = 1 ∧ checkPoint z p = false ∨ a = 2 ∧ checkFarkas z w = false
   ·rw [if_pos hc]; exact .inl ⟨rfl, trivial⟩
   ·rw [if_neg hc]; exact .inr ⟨hm, a, p, w, rfl, rfl, hc⟩
 ·rw [if_neg hm]; exact .inl ⟨rfl, trivial⟩
theorem solve_may {z : List RowZ} {v f : Int} (h : mayQ z v = false) : solve z v f = (0, [], []) := by
 unfold solve; rw [if_neg (by rw [h]; decide)]
theorem solve_yes {z : List RowZ} {v f : Int} (h : (solve z v f).1 = 1) : checkPoint z (solve z v f).2.1 = true := by
 rcases solve_cases z v f with ⟨e, -⟩ | ⟨-, a, p, w, -, e, hc⟩
 ·rw [e] at h; cases h
 ·rw [e] at h ⊢
  dsimp only at h ⊢
  cases hp : checkPoint z p with
  | true => rfl
  | false => exact (hc (.inl ⟨h, hp⟩)).elim
theorem solve_no {z : List RowZ} {v f : Int} (h : (solve z v f).1 = 2) : checkFarkas z (solve z v f).2.2 = true := by
 rcases solve_cases z v f with ⟨e, -⟩ | ⟨-, a, p, w, -, e, hc⟩
 ·rw [e] at h; cases h
 ·rw [e] at h ⊢
  dsimp only at h ⊢
  cases hp : checkFarkas z w with
  | true => rfl
  | false => exact (hc (.inr ⟨h, hp⟩)).elim
theorem mayQ_true {z : List RowZ} {v : Int} (h : mayQ z v = true) : 0 ≤ v ∧ v ≤ 64 ∧ z.length ≤ 256 ∧ ∀ r, r ∈ z → (r.1.length : Int) = v := by
 unfold mayQ at h
 simp only [Bool.and_eq_true, decide_eq_true_eq, List.all_eq_true] at h
 exact ⟨h.1.1.1, h.1.1.2, h.1.2, h.2⟩
theorem solve_fit {l : List S38} (hin : ∀ r, r ∈ l → RowIn r) (v f : Int) : (∀ x, x ∈ (solve (l.map toZ) v f).2.1 → Fit x) ∧ (∀ x, x ∈ (solve (l.map toZ) v f).2.2 → In64 x) := by
 rcases solve_cases (l.map toZ) v f with ⟨e, -⟩ | ⟨hm, a, p, w, ho, e, -⟩
 ·rw [e]; exact ⟨(fun x hx => by cases hx), (fun x hx => by cases hx)⟩
 ·rw [e]
  obtain ⟨h0, h64, h256, hlen⟩ := mayQ_true hm
  rw [List.length_map] at h256
  obtain ⟨t, ht, h2⟩ := bind_some' ho
  exact loop_fit _ (made_wf hin (show v.toNat ≤ 64 by omega) h256 (fun r hr => by
   have := hlen (toZ r) (List.mem_map_of_mem hr)
   unfold toZ at this
   dsimp only at this
   omega) ht) h2
theorem chkP_sol {l m : List S38} (hin : ∀ r, r ∈ l → RowIn r) (v f : Int) : chkP m ((solve (l.map toZ) v f).2.1.map ofQ) = checkPoint (m.map toZ) (solve (l.map toZ) v f).2.1 := chkP_of (solve_fit hin v f).1
theorem checkPoint_app {a b : List RowZ} {p : List Rat} : checkPoint (a ++ b) p = (checkPoint a p && checkPoint b p) := by unfold checkPoint; rw [List.all_append]
theorem solve_nil (v f : Int) : solve [] v f = if 0 ≤ v ∧ v ≤ 64 then (1, List.replicate v.toNat 0, []) else (0, [], []) := by
 by_cases h : 0 ≤ v ∧ v ≤ 64
 ·rw [if_pos h]
  unfold solve
  rw [if_pos (by unfold mayQ; simp [h.1, h.2])]
  have h1 : (made [] v.toNat).bind (loop v.toNat f.toNat) = some (1, List.replicate v.toNat 0, []) := by
   simp only [made, limF, Option.bind_some, List.length_nil, List.range_zero, List.map_nil, Nat.add_zero]
   unfold loop
   have hw : wrong v.toNat (⟨[], [], List.replicate v.toNat 0, []⟩ : Tab) = none := rfl
   rw [hw]
   simp
  rw [h1]
  dsimp only
  rw [if_neg (by
   rintro (⟨_, h⟩ | ⟨h, _⟩)
   ·cases h
   ·cases h)]
 ·rw [if_neg h]
  exact solve_may (by
   unfold mayQ
   rcases Classical.not_and_iff_not_or_not.1 h with h | h
   ·simp [h]
   ·simp [h])
theorem more_ok {l : List S38} {r : S38} (hin : ∀ x, x ∈ l ++ [r] → RowIn x) (v f : Int) :
  ¬ ((solve (l.map toZ) v f).1 = 2 ∧ (solve ((l ++ [r]).map toZ) v f).1 = 1) ∧ ((solve ((l ++ [r]).map toZ) v f).1 = 1 → chkP l ((solve ((l ++ [r]).map toZ) v f).2.1.map ofQ) = true) := by
 have key : (solve ((l ++ [r]).map toZ) v f).1 = 1 → checkPoint (l.map toZ) (solve ((l ++ [r]).map toZ) v f).2.1 = true := fun h => by
  have := solve_yes h
  rw [List.map_append, checkPoint_app, Bool.and_eq_true, ← List.map_append] at this
  exact this.1
 refine ⟨fun ⟨h1, h2⟩ => never (key h2) (solve_no h1), fun h => ?_⟩
 rw [chkP_sol hin]
 exact key h
end Go.Proofs.Ytdkbnbebioflaaa.Ln
end
