import Derived.Test.YtbpjnkeilhfajaaGreatLnC
import Derived.Laws.OwnMore
import Derived.Test.YtbpjnkeilhfajaaGreatLnJ
import Derived.Test.YtbpjnkeilhfajaaGreatTl
import Derived.Test.YtbpjnkeilhfajaaGreatRfC
section
/- A row that came is appended to a row of the call's own: cell by cell; what is read of it then. -/
namespace Go.Proofs.YtbpjnkeilhfajaaGreat.Ln
open Go.RowKit Go.Proofs.YtbpjnkeilhfajaaGreat.Num Go.Proofs.YtbpjnkeilhfajaaGreat.Given Go.Proofs.YtbpjnkeilhfajaaGreatW.PrintWords
set_option linter.unusedVariables false
set_option linter.unusedSimpArgs false
theorem run_app_none {P : Program} {w : World} (base : Nat) (t ty e : TypeId) (i : TypeInfo) (size : Nat) (ht : P.underlying t = some (.slice e)) (hi : P.info? e = some i)
  (v : Value) (n c : Nat) (xs : List Value) (hown : w.ownsRow base e size v n xs) :
  (Builtin.append_ #[t, t] ty #[v, .slice none 0 c]).run P w = .ok v w := by
 rcases hown.2 with ⟨rfl, rfl⟩ | ⟨g, cap, cur, rfl, _, _, hnc, _⟩
 ·simp [Builtin.append_, run_underlying ht, sizeOf, typeInfo, hi, Builtin.lenOf, Builtin.firstCells]
 ·simp [Builtin.append_, run_underlying ht, sizeOf, typeInfo, hi, Builtin.lenOf, Builtin.firstCells, hnc, storeCells]
structure Raw (w : World) (A : Option Addr) (n size : Nat) (news : List Value) : Prop where
 len : news.length = n * size
 nil : A = none → n = 0
 cell : ∀ ad, A = some ad → ∀ j u, news[j]? = some u → w.cell? (ad.add j) = some u
 one : ∀ u, u ∈ news → u.oneCell' = true
theorem Raw.below {w w1 : World} {A : Option Addr} {n size : Nat} {news : List Value} (h : Raw w A n size news) (hb : Below w.heap.size w w1) : Raw w1 A n size news :=
 ⟨h.len, h.nil, fun ad e j u hj => kcell hb (h.cell ad e j u hj), h.one⟩
theorem wp_appR {P : Program} {w : World} {o : Oper} {a : Act} {K : Act → World → Prop} {Q : Exit → Act → World → Prop} (s x : Operand) (t : TypeId)
  (ho : o.op = .call { callee := .builtin .append, args := #[s, x], argTypes := #[t, t] })
  (base : Nat) (e : TypeId) (z : Value) (size bytes : Nat) (ht : P.underlying t = some (.slice e)) (hi : (P.info? e).map (fun i => (i.zero, i.size, i.bytes)) = some (some z, size, bytes)) (hzs : z.cells.size = size) (hsz : 0 < size)
  (v : Value) (n : Nat) (xs : List Value) (hs : a.eval s = v) (hown : w.ownsRow base e size v n xs)
  (A : Option Addr) (m c : Nat) (news : List Value) (hx : a.eval x = .slice A m c) (hr : Raw w A m size news)
  (h63 : n + m ≤ maxLen) (hbytes : (n + m) * bytes ≤ 140737488355328) (hbase : base ≤ w.heap.size)
  (h : ∀ v' w', Hid (w'.ownsRow base e size v' (n + m) (xs ++ news)) → w.grownBy w' v.ownBlock → K (a.put o.dst v') w') : o.wp P a w K Q := by
 cases hq : P.info? e with
 | none => rw [hq] at hi; cases hi
 | some i =>
  rw [hq] at hi
  injection hi with hi
  injection hi with h2 h3
  injection h3 with h3 h4
  cases A with
  | some ad => exact wp_append_own w s x t ho base e i z size bytes ht hq h2 h3 h4 hzs hsz v n xs hs hown ad m c news hx hr.len (hr.cell ad rfl) hr.one h63 hbytes hbase fun v' w' a1 a2 _ => h v' w' a1 a2
  | none =>
   have hm := hr.nil rfl
   subst hm
   have hn : news = [] := List.eq_nil_of_length_eq_zero (by rw [hr.len]; omega)
   subst hn
   have hrun := run_app_none (P := P) (w := w) base t o.type e i size ht hq v n c xs hown
   unfold Oper.wp
   simp [execOp, ho, resolve, invoke, builtin, hs, hx, hrun, Result.andThen]
   exact h v w (by rw [List.append_nil]; exact Lib.hid hown) ⟨rfl, rfl, rfl, Nat.le_refl _, fun _ _ _ => rfl⟩
theorem step_appR {P : Program} {ops : Array Oper} {o : Oper} {a : Act} {w : World} {K : Act → World → Prop} {Q : Exit → Act → World → Prop} {E : Prop} (hgd : o.guard = none) (s x : Operand) (t : TypeId)
  (ho : o.op = .call { callee := .builtin .append, args := #[s, x], argTypes := #[t, t] })
  (base : Nat) (e : TypeId) (z : Value) (size bytes : Nat) (ht : P.underlying t = some (.slice e)) (hi : (P.info? e).map (fun i => (i.zero, i.size, i.bytes)) = some (some z, size, bytes)) (hzs : z.cells.size = size) (hsz : 0 < size)
  (v : Value) (n : Nat) (xs : List Value) (hs : a.eval s = v) (hown : w.ownsRow base e size v n xs)
  (A : Option Addr) (m c : Nat) (news : List Value) (hx : a.eval x = .slice A m c) (hr : Raw w A m size news)
  (h63 : n + m ≤ maxLen) (hbytes : (n + m) * bytes ≤ 140737488355328) (hbase : base ≤ w.heap.size)
  (h : ∀ v' w', Hid (w'.ownsRow base e size v' (n + m) (xs ++ news)) → w.grownBy w' v.ownBlock → K (a.put o.dst v') w') :
  if Region.wanted o (yielded ops a.tmps) = true then Oper.wp P o a w K Q else E := by
 rw [if_pos (show Region.wanted o (yielded ops a.tmps) = true by simp [Region.wanted, hgd])]
 exact wp_appR s x t ho base e z size bytes ht hi hzs hsz v n xs hs hown A m c news hx hr h63 hbytes hbase h
theorem wpList_appR {P : Program} {w : World} {ops : Array Oper} {rest : List Oper} {o : Oper} {a : Act} {Q : Exit → Act → World → Prop} (hgd : o.guard = none) (s x : Operand) (t : TypeId)
  (ho : o.op = .call { callee := .builtin .append, args := #[s, x], argTypes := #[t, t] })
  (base : Nat) (e : TypeId) (z : Value) (size bytes : Nat) (ht : P.underlying t = some (.slice e)) (hi : (P.info? e).map (fun i => (i.zero, i.size, i.bytes)) = some (some z, size, bytes)) (hzs : z.cells.size = size) (hsz : 0 < size)
  (v : Value) (n : Nat) (xs : List Value) (hs : a.eval s = v) (hown : w.ownsRow base e size v n xs)
  (A : Option Addr) (m c : Nat) (news : List Value) (hx : a.eval x = .slice A m c) (hr : Raw w A m size news)
  (h63 : n + m ≤ maxLen) (hbytes : (n + m) * bytes ≤ 140737488355328) (hbase : base ≤ w.heap.size)
  (h : ∀ v' w', Hid (w'.ownsRow base e size v' (n + m) (xs ++ news)) → w.grownBy w' v.ownBlock → wpList P ops Q rest (a.put o.dst v') w') : wpList P ops Q (o :: rest) a w := by
 refine wpList_plain hgd fun K hK => ?_
 exact wp_appR s x t ho base e z size bytes ht hi hzs hsz v n xs hs hown A m c news hx hr h63 hbytes hbase fun v' w' h1 h2 => hK _ _ (h v' w' h1 h2)
def Enc {α : Type} (d : Kd α) (w : World) (xs : List α) (raws : List Value) : Prop := raws.length = xs.length * d.sz ∧ ∀ j p, xs[j]? = some p → ∃ cs, cs.length = d.sz ∧ d.K w p cs ∧ ∀ i u, cs[i]? = some u → raws[j * d.sz + i]? = some u
theorem Enc.below {α : Type} {d : Kd α} {w w1 : World} {xs : List α} {raws : List Value} (h : Enc d w xs raws) (hb : Below w.heap.size w w1) : Enc d w1 xs raws :=
 ⟨h.1, fun j p hj => by obtain ⟨cs, a, b, c⟩ := h.2 j p hj; exact ⟨cs, a, d.K_below hb b, c⟩⟩
theorem Enc.app {α : Type} {d : Kd α} {w : World} {xs ys : List α} {r1 r2 : List Value} (h1 : Enc d w xs r1) (h2 : Enc d w ys r2) : Enc d w (xs ++ ys) (r1 ++ r2) := by
 refine ⟨by rw [List.length_append, List.length_append, h1.1, h2.1, Nat.add_mul], fun j p hj => ?_⟩
 by_cases hlt : j < xs.length
 ·rw [List.getElem?_append_left hlt] at hj
  obtain ⟨cs, a, b, c⟩ := h1.2 j p hj
  refine ⟨cs, a, b, fun i u hu => ?_⟩
  have h3 := c i u hu
  rw [List.getElem?_append_left (List.getElem?_eq_some_iff.1 h3).1]
  exact h3
 ·rw [List.getElem?_append_right (Nat.le_of_not_lt hlt)] at hj
  obtain ⟨cs, a, b, c⟩ := h2.2 _ p hj
  refine ⟨cs, a, b, fun i u hu => ?_⟩
  have h3 := c i u hu
  have e : j * d.sz + i = r1.length + ((j - xs.length) * d.sz + i) := by
   rw [h1.1, Nat.sub_mul]
   have := Nat.mul_le_mul_right d.sz (Nat.le_of_not_lt hlt)
   omega
  rw [e, List.getElem?_append_right (Nat.le_add_right _ _), Nat.add_sub_cancel_left]
  exact h3
theorem Enc.one {α : Type} {d : Kd α} {w : World} {x : α} {cs : List Value} (hl : cs.length = d.sz) (h : d.K w x cs) : Enc d w [x] cs := by
 refine ⟨by rw [hl, List.length_singleton, Nat.one_mul], fun j p hj => ?_⟩
 match j, hj with
 | 0, hj => obtain rfl := Option.some.inj hj; exact ⟨cs, hl, h, fun i u hu => by rw [Nat.zero_mul, Nat.zero_add]; exact hu⟩
theorem Enc.nil {α : Type} (d : Kd α) (w : World) : Enc d w [] [] := ⟨by rw [List.length_nil, List.length_nil, Nat.zero_mul], fun j p hj => by cases hj⟩
theorem flatten_get {sz : Nat} : ∀ (L : List (List Value)), (∀ c, c ∈ L → c.length = sz) → ∀ j c, L[j]? = some c → ∀ i u, c[i]? = some u → L.flatten[j * sz + i]? = some u
 | a :: L, h, 0, c, hj, i, u, hu => by
  obtain rfl := Option.some.inj hj
  rw [Nat.zero_mul, Nat.zero_add, List.flatten_cons, List.getElem?_append_left (List.getElem?_eq_some_iff.1 hu).1]
  exact hu
 | a :: L, h, j + 1, c, hj, i, u, hu => by
  have hl := h a (List.mem_cons_self ..)
  rw [List.flatten_cons, List.getElem?_append_right (by rw [hl, Nat.add_mul]; omega), hl, show (j + 1) * sz + i - sz = j * sz + i by rw [Nat.add_mul]; omega]
  exact flatten_get L (fun c hc => h c (List.mem_cons_of_mem _ hc)) j c (by simpa using hj) i u hu
theorem flatten_len {sz : Nat} : ∀ (L : List (List Value)), (∀ c, c ∈ L → c.length = sz) → L.flatten.length = L.length * sz
 | [], h => by simp
 | a :: L, h => by rw [List.flatten_cons, List.length_append, h a (List.mem_cons_self ..), flatten_len L (fun c hc => h c (List.mem_cons_of_mem _ hc)), List.length_cons, Nat.add_mul]; omega
theorem chooseL {R : Nat → List Value → Prop} {n : Nat} (h : ∀ j, j < n → ∃ c, R j c) : ∃ f : Nat → List Value, ∀ j, j < n → R j (f j) := by
 induction n with
 | zero => exact ⟨fun _ => [], fun j hj => absurd hj (Nat.not_lt_zero _)⟩
 | succ n ih =>
  obtain ⟨f, hf⟩ := ih (fun j hj => h j (by omega))
  obtain ⟨c, hc⟩ := h n (by omega)
  refine ⟨fun j => if j = n then c else f j, fun j hj => ?_⟩
  dsimp only
  by_cases e : j = n
  ·rw [if_pos e, e]; exact hc
  ·rw [if_neg e]; exact hf j (by omega)
theorem raw_of {α : Type} {d : Kd α} (h1 : ∀ w x cs, d.K w x cs → ∀ u, u ∈ cs → u.oneCell' = true) {w : World} {A : Option Addr} {xs : List α} (h : d.C w A xs.length xs) (hsz : 0 < d.sz) : ∃ news, Raw w A xs.length d.sz news ∧ Enc d w xs news := by
 obtain ⟨-, hm, hc⟩ := h
 by_cases h0 : 0 < xs.length
 ·obtain ⟨ad, rfl, hj⟩ := hc h0
  have hex : ∀ j, j < xs.length → ∃ cs, cs.length = d.sz ∧ (∃ p, xs[j]? = some p ∧ d.K w p cs) ∧ ∀ i u, cs[i]? = some u → w.cell? (ad.add (j * d.sz + i)) = some u := fun j hlt => by
   obtain ⟨cs, a, b, c⟩ := hj j xs[j] (List.getElem?_eq_getElem hlt)
   exact ⟨cs, a, ⟨_, List.getElem?_eq_getElem hlt, b⟩, c⟩
  obtain ⟨f, hf⟩ := chooseL hex
  have hL : ∀ c, c ∈ (List.range xs.length).map f → c.length = d.sz := fun c hc => by
   obtain ⟨j, hj, rfl⟩ := List.mem_map.1 hc
   exact (hf j (List.mem_range.1 hj)).1
  have hlen : ((List.range xs.length).map f).flatten.length = xs.length * d.sz := by rw [flatten_len _ hL]; simp
  have hget : ∀ j, j < xs.length → ∀ i u, (f j)[i]? = some u → ((List.range xs.length).map f).flatten[j * d.sz + i]? = some u := fun j hlt i u hu => flatten_get _ hL j (f j) (by simp [hlt]) i u hu
  refine ⟨((List.range xs.length).map f).flatten, ⟨hlen, fun e => (by cases e), ?_, ?_⟩, hlen, ?_⟩
  ·intro ad' ead k u hk
   obtain rfl := Option.some.inj ead
   have hkl := (List.getElem?_eq_some_iff.1 hk).1
   rw [hlen] at hkl
   have hq : k / d.sz < xs.length := Nat.div_lt_of_lt_mul (by rw [Nat.mul_comm]; exact hkl)
   have hr : k % d.sz < d.sz := Nat.mod_lt _ hsz
   have e : k / d.sz * d.sz + k % d.sz = k := by rw [Nat.mul_comm]; exact Nat.div_add_mod _ _
   obtain ⟨a, b, c⟩ := hf _ hq
   have hu2 := hget _ hq (k % d.sz) _ (List.getElem?_eq_getElem (by rw [a]; exact hr))
   rw [e, hk] at hu2
   have := c (k % d.sz) u (by rw [List.getElem?_eq_getElem (by rw [a]; exact hr)]; exact hu2.symm)
   rw [e] at this
   exact this
  ·intro u hu
   obtain ⟨c, hc, hu⟩ := List.mem_flatten.1 hu
   obtain ⟨j, hj, rfl⟩ := List.mem_map.1 hc
   obtain ⟨-, ⟨p, -, hK⟩, -⟩ := hf j (List.mem_range.1 hj)
   exact h1 w p _ hK u hu
  ·intro j p hp
   have hlt := (List.getElem?_eq_some_iff.1 hp).1
   obtain ⟨a, ⟨q, hq, hK⟩, c⟩ := hf j hlt
   rw [hp] at hq
   obtain rfl := Option.some.inj hq
   exact ⟨f j, a, hK, hget j hlt⟩
 ·obtain rfl : xs = [] := List.eq_nil_of_length_eq_zero (by omega)
  exact ⟨[], ⟨by simp, fun _ => rfl, (fun _ _ j u hj => by cases hj), (fun u hu => by cases hu)⟩, Enc.nil d w⟩
theorem own_C {α : Type} {d : Kd α} {w : World} {base : Nat} {e : TypeId} {v : Value} {n : Nat} {raws : List Value} {xs : List α} (h : w.ownsRow base e d.sz v n raws) (he : Enc d w xs raws) (hn : xs.length = n) (hm : n ≤ maxLen) :
  ∃ A c, v = .slice A n c ∧ n ≤ c ∧ d.C w A n xs := by
 rcases h.2 with ⟨rfl, rfl⟩ | ⟨g, cap, cur, rfl, -, hb, hle, -, hs, ht⟩
 ·obtain rfl : xs = [] := List.eq_nil_of_length_eq_zero hn
  exact ⟨none, 0, rfl, Nat.le_refl _, Kd.C_nil d w⟩
 ·refine ⟨_, cap, rfl, hle, hn, by unfold maxLen at hm; omega, fun _ => ⟨_, rfl, fun j p hj => ?_⟩⟩
  obtain ⟨cs, h1, h2, h3⟩ := he.2 j p hj
  refine ⟨cs, h1, h2, fun i u hu => ?_⟩
  have e : (⟨g, 0, none⟩ : Addr).add (j * d.sz + i) = ⟨g, j * d.sz + i, none⟩ := by rw [Addr.add_lit, Nat.zero_add]
  rw [e, blk_cell hb]
  have h4 := h3 i u hu
  rw [← ht, List.getElem?_take] at h4
  split at h4
  ·simpa using h4
  ·cases h4
theorem row_one (w : World) (x : S40) (cs : List Value) (h : k40.K w x cs) : ∀ u, u ∈ cs → u.oneCell' = true := by
 obtain ⟨A, c, rfl, -, -⟩ := k40_open h
 intro u hu
 simp only [List.mem_cons, List.not_mem_nil, or_false] at hu
 rcases hu with rfl | rfl <;> rfl
end Go.Proofs.YtbpjnkeilhfajaaGreat.Ln
end

section
/- Helpers: a row built at an address that is a letter; rows of the call's own, kept. -/
namespace Go.Proofs.YtbpjnkeilhfajaaGreat.Ln
open Go.RowKit Go.Proofs.YtbpjnkeilhfajaaGreat.Num Go.Proofs.YtbpjnkeilhfajaaGreat.Given Go.Proofs.YtbpjnkeilhfajaaGreat.Lin Go.Proofs.YtbpjnkeilhfajaaGreatW.PrintWords
set_option linter.unusedVariables false
set_option linter.unusedSimpArgs false
theorem infoRow : (Tryz.prog.info? 40).map (fun i => (i.zero, i.size, i.bytes)) = some (some (.agg #[.slice none 0 0, .int .i64 0]), 2, 32) := by kernel_rfl
theorem sl_newh {P : Program} {o : Oper} {ops : Array Oper} {a : Act} {w : World} {K : Act → World → Prop} {Q : Exit → Act → World → Prop} (ob : Obj) (n : Nat)
  (hw : Region.wanted o (yielded ops a.tmps) = true)
  (hrun : ∀ w : World, (execOp a.eval o).run P w = .ok (.value (.slice (some ⟨w.heap.size, 0, none⟩) n n)) (w.alloc ob))
  (h : ∀ (g : Nat) (w2 : World), Hid (g = w.heap.size) → Below w.heap.size w w2 → Hid (w2.heap[g]? = some ob ∧ g < w2.heap.size) → K (a.put o.dst (.slice (some ⟨g, 0, none⟩) n n)) w2) :
  if Region.wanted o (yielded ops a.tmps) = true then Oper.wp P o a w K Q else K (a.put o.dst undef) w := by
 rw [if_pos hw]
 unfold Oper.wp
 rw [hrun, Oper.upon_value]
 exact h _ _ (Lib.hid rfl) ((Below.refl _ _).alloc (Nat.le_refl _) _) (Lib.hid ⟨blk_new _ _, by simp⟩)
theorem own_keepB {w w1 : World} {base : Nat} {e : TypeId} {size n : Nat} {v : Value} {xs : List Value} (h : Hid (w.ownsRow base e size v n xs)) (hb : Below w.heap.size w w1) : Hid (w1.ownsRow base e size v n xs) := by
 obtain ⟨hl, hv⟩ := h.out
 refine Lib.hid ⟨hl, ?_⟩
 rcases hv with h | ⟨g', cap, cur, rfl, h1, h2, h3⟩
 ·exact .inl h
 ·exact .inr ⟨g', cap, cur, rfl, h1, blk_below h2 hb, h3⟩
theorem own_none {w w2 : World} {base g : Nat} {e : TypeId} {size : Nat} (h : Hid (w2.heap[g]? = some (.cells #[] e (0, 0)) ∧ g < w2.heap.size)) (hg : base ≤ g) : Hid (w2.ownsRow base e size (.slice (some ⟨g, 0, none⟩) 0 0) 0 []) :=
 Lib.hid ⟨by rw [List.length_nil, Nat.zero_mul], .inr ⟨g, 0, #[], rfl, hg, h.out.1, Nat.le_refl _, Nat.zero_le _, by simp, by simp⟩⟩
theorem raw_lit {w : World} {g : Nat} {ty : TypeId} {x y : Value} (h : Hid (w.heap[g]? = some (.cells #[x, y] ty (0, 0)) ∧ g < w.heap.size)) (hx : x.oneCell' = true) (hy : y.oneCell' = true) : Raw w (some ⟨g, 0, none⟩) 1 2 [x, y] := by
 refine ⟨rfl, (fun e => by cases e), fun ad e j u hj => ?_, fun u hu => ?_⟩
 ·obtain rfl := Option.some.inj e
  rw [Addr.add_lit, Nat.zero_add, blk_cell h.out.1]
  match j, hj with
  | 0, hj => exact hj
  | 1, hj => exact hj
 ·simp only [List.mem_cons, List.not_mem_nil, or_false] at hu
  rcases hu with rfl | rfl
  ·exact hx
  ·exact hy
theorem cells_grown {w w1 W : World} {row : Option Nat} (hg : w.grownBy w1 row) (hb : ∀ k, row = some k → W.heap.size ≤ k) (hbel : Below W.heap.size W w) : ∀ {l : List (Addr × Value)}, Cells l W → Cells l w → Cells l w1
 | [], _, _ => trivial
 | (a, v) :: l, hW, h => by
  have hlt := World.block_lt_of_cell? W _ hW.1
  refine ⟨?_, cells_grown hg hb hbel hW.2 h.2⟩
  have hbl : w1.heap[a.block]? = w.heap[a.block]? := hg.block a.block (Nat.lt_of_lt_of_le hlt hbel.size) (fun e => by have := hb _ e.symm; omega)
  rw [World.cell?_of_block hbl]; exact h.1
theorem Hd.grownC {l : List (Addr × Value)} {W w w1 : World} {row : Option Nat} (h : Hd l W W.heap.size w) (hW : Cells l W) (hg : w.grownBy w1 row) (hb : ∀ k, row = some k → W.heap.size ≤ k) : Hd l W W.heap.size w1 :=
 ⟨h.le, cells_grown hg hb h.below hW h.cells, h.below.grown hg h.size hb⟩
theorem i64_at {w : World} {A : Option Addr} {l : List Int} (h : (Kd.int .i64).C w A l.length l) {i : Nat} (hi : i < l.length) : ∃ ad, A = some ad ∧ w.cell? (ad.add i) = some (.int .i64 l[i]) := by
 obtain ⟨ad, c, e, _, hK, hc0⟩ := Kd.C_get h (0 : Int) i (by omega) (by omega)
 obtain rfl : c = [.int .i64 (l.getD (i : Int).toNat 0)] := hK
 have := hc0 0 _ rfl
 rw [Int.toNat_natCast, show (Kd.int .i64).sz = 1 from rfl, Nat.mul_one, Nat.add_zero] at this
 exact ⟨ad, e, by rw [this]; simp [List.getElem?_eq_getElem hi]⟩
theorem row_at {w : World} {A : Option Addr} {l : List S40} (h : Kd.C k40 w A l.length l) {i : Nat} (hi : i < l.length) : ∃ ad A0 c0, A = some ad ∧ w.cell? (ad.add (i * 2)) = some (.slice A0 l[i].f0.length c0) ∧ w.cell? ⟨(ad.add (i * 2)).block, (ad.add (i * 2)).off + 1, none⟩ = some (.int .i64 l[i].f1) ∧ l[i].f0.length ≤ c0 ∧ (Kd.int .i64).C w A0 l[i].f0.length l[i].f0 := by
 obtain ⟨ad, A0, c0, e, q0, q1, h1, h2⟩ := at_T40 h (i : Int) (by omega) (by omega)
 have er : rd_T40 l (i : Int) = l[i] := by simp [rd_T40, List.getElem?_eq_getElem hi]
 rw [er, Int.toNat_natCast] at q0 q1
 rw [er] at h1 h2
 exact ⟨ad, A0, c0, e, q0, q1, h1, h2⟩
end Go.Proofs.YtbpjnkeilhfajaaGreat.Ln
end

section
/- ashlarref01's Over. -/
namespace Go.Proofs
theorem Zp3g {p q : Prop} (hq : q) (h : p = q := by first | (simp only [Act.put, List.setIfInBounds_toArray, List.set_cons_zero, List.set_cons_succ]; done) | (simp only [Act.put, List.setIfInBounds_toArray, List.set_cons_zero, List.set_cons_succ]; rfl) | rfl) : p := Eq.mpr h hq
theorem Z3g0 {p : Prop} (h : p := by simp only []; omega) : p := h
end Go.Proofs
namespace Go.Proofs.YtbpjnkeilhfajaaGreat.Rf
open Go.RowKit Go.Proofs.YtbpjnkeilhfajaaGreat.Given Go.Proofs.YtbpjnkeilhfajaaGreat.PNumReckons Go.Proofs.YtbpjnkeilhfajaaGreatW.PrintWords Go.Proofs.YtbpjnkeilhfajaaGreatW.PrintLast Go.Proofs.YtbpjnkeilhfajaaGreatW.PrintMore Go.Proofs.YtbpjnkeilhfajaaGreat.Ref Go.Proofs.YtbpjnkeilhfajaaGreat.Ln
set_option linter.unusedVariables false
set_option linter.unusedSimpArgs false
theorem rawJ {w : World} {A : Option Addr} {l : List Int} (h : Kd.C (Kd.int .i64) w A l.length l) : Raw w A l.length 1 (intv l) := by
 refine ⟨by rw [intv_len]; omega, fun e => ?_, fun ad e j u hj => ?_, fun u hu => ?_⟩
 ·rcases Nat.eq_zero_or_pos l.length with h0 | h0
  ·exact h0
  ·obtain ⟨ad, e1, _⟩ := i64_at h h0
   rw [e] at e1; cases e1
 ·have hl : j < l.length := by rw [← intv_len l]; exact (List.getElem?_eq_some_iff.1 hj).1
  obtain ⟨ad', e1, q⟩ := i64_at h hl
  rw [e] at e1
  obtain rfl := Option.some.inj e1
  rw [q]
  unfold intv at hj
  rw [List.getElem?_map, List.getElem?_eq_getElem hl] at hj
  exact hj
 ·obtain ⟨x, _, rfl⟩ := List.mem_map.1 hu
  rfl
theorem stepJ {ops : Array Oper} {o : Oper} {a : Act} {w : World} {K : Act → World → Prop} {Q : Exit → Act → World → Prop} {E : Prop} (hgd : o.guard = none) (s x : Operand)
  (ho : o.op = .call { callee := .builtin .append, args := #[s, x], argTypes := #[69 , 69 ] })
  (base : Nat) (v : Value) (l : List Int) (hs : a.eval s = v) (hown : RowJ w base v l) (A : Option Addr) (n c : Nat) (m : List Int) (hx : a.eval x = .slice A n c) (hn : n = m.length) (hC : Kd.C (Kd.int .i64) w A m.length m) (hb : l.length + m.length < 17592186044416) (hbase : base ≤ w.heap.size)
  (h : ∀ v' w', Hid (RowJ w' base v' (l ++ m)) → w.grownBy w' v.ownBlock → K (a.put o.dst v') w') :
  if Region.wanted o (yielded ops a.tmps) = true then Oper.wp Tryz.prog o a w K Q else E := by
 subst hn
 refine step_appR hgd s x _ ho base 3 (.int .i64 0) 1 8 Tryz.underlying69 infoJ rfl (by decide) v l.length (intv l) hs hown A m.length c (intv m) hx (rawJ hC) (by unfold maxLen; omega) (by omega) hbase (fun v' w' h1 h2 => h v' w' (Lib.hid ?_) h2)
 unfold RowJ
 rw [List.length_append, show intv (l ++ m) = intv l ++ intv m by simp [intv]]
 exact h1.out
theorem RowJ.one {w : World} {base g : Nat} {x : Int} (h : Hid (w.heap[g]? = some (.cells #[.int .i64 x] 3 (0, 0)) ∧ g < w.heap.size)) (hg : base ≤ g) : RowJ w base (.slice (some ⟨g, 0, none⟩) 1 1) [x] :=
 ⟨by simp [intv], .inr ⟨g, 1, #[.int .i64 x], rfl, hg, h.out.1, Nat.le_refl _, by unfold maxLen; omega, by simp, by simp [intv]⟩⟩
theorem RowJ.ne {w : World} {base : Nat} {v : Value} {l : List Int} (h : RowJ w base v l) {g i : Nat} (hg : v.ownBlock ≠ some g) (u : Value) : RowJ (w.setCell ⟨g, i, none⟩ u) base v l := by
 obtain ⟨hl, hv⟩ := h
 refine ⟨hl, ?_⟩
 rcases hv with h | ⟨g', cap, cur, rfl, h1, hb, h2⟩
 ·exact .inl h
 ·exact .inr ⟨g', cap, cur, rfl, h1, blk_far hb (p := ⟨g, i, none⟩) (fun e => hg (congrArg some e)) u, h2⟩
structure Ov (w : World) (d0 d1 : Bool) (A0 A1 : Option Addr) (n0 c0 n1 c1 gq n g7 : Nat) (W : World) (q : List Int) (b : Bool) (v : Value) (l : List Int) : Prop where
 fa : Bx W w.heap.size (.bool d0) (.slice A0 n0 c0)
 fb : Bx W (w.heap.size + 1) (.bool d1) (.slice A1 n1 c1)
 fr : Bx W (w.heap.size + 2) (.bool false) (.slice none 0 0)
 fz : Bx W (w.heap.size + 3) (.bool false) (.slice none 0 0)
 fq : RowJ W (w.heap.size + 4) (.slice (some ⟨gq, 0, none⟩) n n) q
 fg : gq < g7 ∧ w.heap.size + 4 ≤ gq
 fs : Bx W g7 (.bool b) v
 fl : RowJ W (g7 + 1) v l
 below : Below w.heap.size w W
section
variable {w W W1 : World} {d0 d1 b : Bool} {A0 A1 : Option Addr} {n0 c0 n1 c1 gq n g7 : Nat} {q l : List Int} {v : Value}
theorem Ov.keep (h : Hid (Ov w d0 d1 A0 A1 n0 c0 n1 c1 gq n g7 W q b v l)) (hb : Below W.heap.size W W1) : Hid (Ov w d0 d1 A0 A1 n0 c0 n1 c1 gq n g7 W1 q b v l) :=
 Lib.hid ⟨h.out.fa.keep hb (blk_lt h.out.fa), h.out.fb.keep hb (blk_lt h.out.fb), h.out.fr.keep hb (blk_lt h.out.fr), h.out.fz.keep hb (blk_lt h.out.fz), h.out.fq.below hb, h.out.fg, h.out.fs.keep hb (blk_lt h.out.fs), h.out.fl.below hb, h.out.below.trans (hb.mono h.out.below.size)⟩
theorem Ov.rest (h : Hid (Ov w d0 d1 A0 A1 n0 c0 n1 c1 gq n g7 W q b v l)) (hb : Below W.heap.size W W1) {b' : Bool} {v' : Value} {l' : List Int} (hJ : RowJ W1 W.heap.size v' l') : Hid (Ov w d0 d1 A0 A1 n0 c0 n1 c1 gq n g7 ((W1.setCell ⟨g7, 0, none⟩ (.bool b')).setCell ⟨g7, 1, none⟩ v') q b' v' l') := by
 obtain ⟨a1, a2, a3, a4, a5, ⟨a6, a7⟩, a8, a9, a10⟩ := (Ov.keep h hb).out
 have hg := blk_lt h.out.fs
 exact Lib.hid ⟨(a1.far (by omega)).far (by omega), (a2.far (by omega)).far (by omega), (a3.far (by omega)).far (by omega), (a4.far (by omega)).far (by omega), (a5.ne (fun e => by have e1 : gq = g7 := Option.some.inj e; omega) _).ne (fun e => by have e1 : gq = g7 := Option.some.inj e; omega) _, ⟨a6, a7⟩, (a8.put _ _).1, ((hJ.far hg _).far hg _).low hg, (a10.setCell Z3g0 _).setCell Z3g0 _⟩
theorem Ov.quo (h : Hid (Ov w d0 d1 A0 A1 n0 c0 n1 c1 gq n g7 W q b v l)) (j : Nat) (x : Int) : Hid (Ov w d0 d1 A0 A1 n0 c0 n1 c1 gq n g7 (W.setCell ⟨gq, j, none⟩ (.int .i64 x)) (q.set j x) b v l) := by
 obtain ⟨a1, a2, a3, a4, a5, ⟨a6, a7⟩, a8, a9, a10⟩ := h.out
 exact Lib.hid ⟨a1.far (by omega), a2.far (by omega), a3.far (by omega), a4.far (by omega), a5.set j x, ⟨a6, a7⟩, a8.far (by omega), a9.far (by omega) _, a10.setCell Z3g0 _⟩
theorem Ov.fin (h : Hid (Ov w d0 d1 A0 A1 n0 c0 n1 c1 gq n g7 W q b v l)) (x y : Value) : Bx ((W.setCell ⟨w.heap.size + 1 + 1, 0, none⟩ x).setCell ⟨w.heap.size + 1 + 1, 1, none⟩ y) g7 (.bool b) v ∧ Bx ((W.setCell ⟨w.heap.size + 1 + 1, 0, none⟩ x).setCell ⟨w.heap.size + 1 + 1, 1, none⟩ y) (w.heap.size + 1 + 1 + 1) (.bool false) (.slice none 0 0) := by
 obtain ⟨a6, a7⟩ := h.out.fg
 exact ⟨(h.out.fs.far (by omega)).far (by omega), (h.out.fz.far (by omega)).far (by omega)⟩
theorem Ov.cells (h : Hid (Ov w d0 d1 A0 A1 n0 c0 n1 c1 gq n g7 W q b v l)) : W.cell? ⟨w.heap.size, 1, none⟩ = some (.slice A0 n0 c0) ∧ W.cell? ⟨w.heap.size + 1, 1, none⟩ = some (.slice A1 n1 c1) ∧ W.cell? ⟨g7, 0, none⟩ = some (.bool b) ∧ W.cell? ⟨g7, 1, none⟩ = some v ∧ W.frozen? ⟨g7, 0, none⟩ = false ∧ W.frozen? ⟨g7, 1, none⟩ = false ∧ g7 < W.heap.size :=
 ⟨h.out.fa.cells.2.1, h.out.fb.cells.2.1, h.out.fs.cells⟩
end
set_option maxHeartbeats 8000000 in
set_option maxRecDepth 100000 in
theorem Over_any {k : Nat} {d0 d1 : Bool} {A0 A1 : Option Addr} {m0 m1 : Nat} {l0 l1 : List Int} {r1 r3 : Bool} {r2 r4 : List Int} {w : World} (hr0 : Kd.C (Kd.int .i64) w A0 l0.length l0) (hr1 : Kd.C (Kd.int .i64) w A1 l1.length l1) (h : ashlarref01_Over.f k d0 l0 d1 l1 = some (r1, r2, r3, r4)) :
  Calls Tryz.prog 132 #[.agg #[.bool d0, .slice A0 l0.length m0], .agg #[.bool d1, .slice A1 l1.length m1]] w fun e w' => ∃ v u, e = .returned (.tuple #[.agg #[.bool r1, v], .agg #[.bool r3, u]]) ∧ RowJ w' w.heap.size v r2 ∧ RowJ w' w.heap.size u r4 ∧ Below w.heap.size w w' := by
 have HR0 := Lib.hid hr0
 have HR1 := Lib.hid hr1
 unfold ashlarref01_Over.f at h
 replace h := ite_some h
 obtain ⟨-, h⟩ := h
 replace h := ite_some h
 obtain ⟨hn1, h⟩ := h
 rw [Int.toNat_natCast] at h hn1
 obtain ⟨n, hn⟩ : ∃ n, l0.length = n := ⟨_, rfl⟩
 obtain ⟨N, hN⟩ : ∃ N, wrap64 ((l0.length : Int) - 1) = N := ⟨_, rfl⟩
 rw [hN] at h
 rw [hn] at h hn1 hN HR0 ⊢
 have H := Lib.hid h
 have HN := Lib.hid hn1
 have HL := Lib.hid hn
 clear hr0 hr1 h hn1 hn
 have HX := Lib.hid (show Below w.heap.size w ((((w.alloc (.cells #[.bool d0, .slice A0 n m0] 91)).alloc (.cells #[.bool d1, .slice A1 l1.length m1] 91)).alloc (.cells #[.bool false, .slice none 0 0] 91)).alloc (.cells #[.bool false, .slice none 0 0] 91)) ∧ Bx ((((w.alloc (.cells #[.bool d0, .slice A0 n m0] 91)).alloc (.cells #[.bool d1, .slice A1 l1.length m1] 91)).alloc (.cells #[.bool false, .slice none 0 0] 91)).alloc (.cells #[.bool false, .slice none 0 0] 91)) w.heap.size (.bool d0) (.slice A0 n m0) ∧ Bx ((((w.alloc (.cells #[.bool d0, .slice A0 n m0] 91)).alloc (.cells #[.bool d1, .slice A1 l1.length m1] 91)).alloc (.cells #[.bool false, .slice none 0 0] 91)).alloc (.cells #[.bool false, .slice none 0 0] 91)) (w.heap.size + 1) (.bool d1) (.slice A1 l1.length m1) ∧ Bx ((((w.alloc (.cells #[.bool d0, .slice A0 n m0] 91)).alloc (.cells #[.bool d1, .slice A1 l1.length m1] 91)).alloc (.cells #[.bool false, .slice none 0 0] 91)).alloc (.cells #[.bool false, .slice none 0 0] 91)) (w.heap.size + 2) (.bool false) (.slice none 0 0) ∧ Bx ((((w.alloc (.cells #[.bool d0, .slice A0 n m0] 91)).alloc (.cells #[.bool d1, .slice A1 l1.length m1] 91)).alloc (.cells #[.bool false, .slice none 0 0] 91)).alloc (.cells #[.bool false, .slice none 0 0] 91)) (w.heap.size + 3) (.bool false) (.slice none 0 0) from ⟨(by repeat (first | exact Below.refl _ _ | with_reducible assumption | refine Below.alloc ?_ (by first | exact Nat.le_refl _ | (simp; done) | (simp; omega) | omega) _ | refine Below.setCell ?_ (by first | exact Nat.le_refl _ | (simp; done) | (simp; omega) | omega) _ | refine Below.drew ?_ | refine bdrewN ?_ _)), blk_alloc (blk_alloc (blk_alloc (blk_new _ _) _) _) _, blk_alloc (blk_alloc (blk_newk (by simp) _) _) _, blk_alloc (blk_newk (by simp) _) _, blk_newk (by simp) _⟩)
 go_enter Tryz.func132, Tryz.ntmps132
 go_wp2_with (at_make; refine Hid.out ?_)
 refine Lib.hid ?_
 generalize (((w.alloc (.cells #[.bool d0, .slice A0 n m0] 91)).alloc (.cells #[.bool d1, .slice A1 l1.length m1] 91)).alloc (.cells #[.bool false, .slice none 0 0] 91)).alloc (.cells #[.bool false, .slice none 0 0] 91) = W at HX ⊢
 refine wpList_makeJ rfl (.tmp 11) (.tmp 11) rfl (w.heap.size + 4) n rfl rfl HN.out HX.out.2.2.2.2.cells.2.2.2.2 ?_
 intro w1 HJ HB
 obtain ⟨gq, hgq⟩ : ∃ gq, W.heap.size = gq := ⟨_, rfl⟩
 have HG := Lib.hid (show w.heap.size + 4 ≤ gq ∧ gq < w1.heap.size by
  have h1 := HX.out.2.2.2.2.cells.2.2.2.2
  have h2 : (Value.slice (some ⟨gq, 0, none⟩) n n).ownBlock = some gq := rfl
  rw [hgq] at HJ
  exact ⟨by omega, (HJ.out.bk h2).2⟩)
 have HO := Lib.hid (show Ov w d0 d1 A0 A1 n m0 l1.length m1 gq n w1.heap.size (w1.alloc (.cells #[.bool false, .slice none 0 0] 91)) (List.replicate n 0) false (.slice none 0 0) [] by
  have hb : Below W.heap.size W (w1.alloc (.cells #[.bool false, .slice none 0 0] 91)) := HB.out.alloc HB.out.size _
  obtain ⟨x1, x2, x3, x4, x5⟩ := HX.out
  rw [hgq] at HJ
  exact ⟨x2.keep hb (blk_lt x2), x3.keep hb (blk_lt x3), x4.keep hb (blk_lt x4), x5.keep hb (blk_lt x5), HJ.out.below ((Below.refl _ _).alloc (Nat.le_refl _) _), ⟨HG.out.2, HG.out.1⟩, blk_new _ _, RowJ.empty, x1.trans (hb.mono x1.size)⟩)
 have p1 := (Ov.cells HO).1
 rw [hgq]
 obtain ⟨q, hq⟩ : ∃ q, List.replicate n (0 : Int) = q := ⟨_, rfl⟩
 rw [hq] at H HO
 clear HJ HX HB hgq HG hq
 have hN2 : IntKind.i64.wrap ((n : Int) - 1) = N := (i64_w _).trans hN
 go_wp2
 go_loopg [8] k (fun kq v8 w' => ∃ (q : List Int) (i : Int) (b : Bool) (v : Value) (l : List Int), v8 = .int .i64 i ∧ Hid (ashlarref01_Over.l0 kq q i d0 l0 d1 l1 b l = some (r1, r2, r3, r4)) ∧ kq ≤ k ∧ Hid (Ov w d0 d1 A0 A1 n m0 l1.length m1 gq n w1.heap.size w' q b v l))
 case atStart => exact ⟨q, N, false, _, [], by first | rfl | exact congrArg (Value.int .i64) hN, H, Nat.le_refl _, HO⟩
 case round =>
  clear HO H p1 hN hN2
  obtain ⟨q, i, b, v, l, rfl, H, hk, HO⟩ := hrel
  cases gk with
  | zero => have := H.out; simp [ashlarref01_Over.l0] at this
  | succ k1 =>
   have h := H.out
   clear H
   simp only [ashlarref01_Over.l0] at h
   obtain ⟨p0, p1, p2, p3, p4, p5, p6⟩ := Ov.cells HO
   by_cases c1 : i ≥ 0
   ·rw [if_pos c1, if_pos c1] at h
    replace h := ite_some h
    obtain ⟨c2, h⟩ := h
    rw [Option.bind_some] at h
    replace h := ite_some h
    obtain ⟨c3, h⟩ := h
    replace h := Option.bind_eq_some_iff.1 h
    obtain ⟨⟨x1, x2⟩, hx, h⟩ := h
    rw [HL.out] at c2
    obtain ⟨ad0, rfl, x0⟩ := Kd.at_int (Kd.C_below HR0.out HO.out.below) i c1 c2
    obtain ⟨x, hxe⟩ : ∃ x, rd l0 i = x := ⟨_, rfl⟩
    rw [hxe] at x0 hx c3
    obtain ⟨A7, c7, rfl, hlc, hC7⟩ := HO.out.fl.read
    obtain ⟨i, rfl⟩ : ∃ m : Nat, i = m := ⟨i.toNat, by omega⟩
    rw [Int.toNat_natCast] at x0
    have HC := Lib.hid (show Cells [(⟨w.heap.size, 1, none⟩, .slice (some ad0) n m0), (ad0.add i, .int .i64 x), (⟨w1.heap.size, 1, none⟩, .slice A7 l.length c7)] wr from ⟨p0, x0, p3, trivial⟩)
    have HC7 := Lib.hid hC7
    have HU := Lib.hid hx
    have H := Lib.hid h
    have HC3 := Lib.hid c3
    have e1 : ((i : Int) ≥ 0) = True := eq_true c1
    have e2 : (i < n) = True := eq_true (by omega)
    clear h hx c1 c2 c3 hxe x0 p0 p1 p2 p3 p4 p5 hlc hC7
    go_wp2_with fail
    refine wp_region_L 11 (Hd _ wr wr.heap.size) (by kernel_rfl) (⟨Nat.le_refl _, HC.out.keep (Below.refl _ _).drew, (Below.refl _ _).drew⟩) (fun hHeld => ?_)
    refine tl0.go ?_
    refine tl1.go ?_
    refine tl2.go ?_
    refine tl3.go ?_
    refine tl4.go ?_
    refine tl6.go ?_
    refine tl7.go ?_
    refine wpAnyL_ready (rs := [5]) (by kernel_rfl) (by simp) (al5 (fun K hK => ?_) (AllReadyL.nil))
    focus (refine sl_newh (.cells #[.int .i64 x] 3) 1 (by kernel_rfl) (by intro w_; go_simp; done) (fun g_ w2 hg_ hb2 HP => ?_); have HGn := Lib.hid (Nat.le_trans hHeld.size (Nat.le_of_eq hg_.out.symm)); have HJn := Lib.hid (RowJ.one HP HGn.out))
    refine hK.out _ _ (fun _ => ?_) (fun hHeld => ?_)
    ·exact hHeld.keep hb2
    focus (have hHeld := hHeld (by decide); clear hK K; refine Zp3g ?_)
    refine wpAnyL_ready (rs := [8]) (by kernel_rfl) (by simp) (al8 (fun K hK => ?_) (AllReadyL.nil))
    focus (refine stepJ rfl (.tmp 27) (.tmp 29) rfl wr.heap.size _ [x] rfl HJn.out A7 l.length c7 l rfl rfl (Kd.C_below HC7.out hHeld.below) HC3.out hHeld.size ?_; intro v3 w3 HJ3 hg3; obtain ⟨A3, n3, k3, rfl⟩ := HJ3.out.sh)
    refine hK.out _ _ (fun _ => ?_) (fun hHeld => ?_)
    ·exact hHeld.grownC HC.out hg3 (fun k h => by cases h; exact HGn.out)
    focus (have hHeld := hHeld (by decide); clear hK K; refine Zp3g ?_)
    refine tl9.go ?_
    refine wpAnyL_ready (rs := [10]) (by kernel_rfl) (by simp) (al10 (fun K hK => ?_) (AllReadyL.nil))
    focus go_simp
    focus (refine (cut_J HJ3.out HU.out).mono ?_; rintro e w2 ⟨m2, rfl, hJ4, hb2⟩; have HJ4 := Lib.hid hJ4; clear hJ4)
    focus try simp only []
    refine hK.out _ _ (fun _ => ?_) (fun hHeld => ?_)
    ·exact hHeld.keep hb2
    focus (have hHeld := hHeld (by decide); clear hK K; refine Zp3g ?_)
    refine wpAnyL_ready (rs := [11]) (by kernel_rfl) (by simp) (al11 (fun K hK => ?_) (AllReadyL.nil))
    focus (have HO2 := Ov.keep HO hHeld.below; obtain ⟨-, -, z0, z1, z2, z3, z4⟩ := Ov.cells HO2; go_simp)
    refine hK.out _ _ (fun h => absurd rfl h) (fun _ => ?_)
    focus (clear hK K; refine Zp3g ?_)
    refine wpAnyL_done (by kernel_rfl) ?_ _; rotate_left 1
    have HO3 := Ov.rest HO hHeld.below HJ4.out (b' := x1)
    generalize (w2.setCell ⟨w1.heap.size, 0, none⟩ (.bool x1)).setCell ⟨w1.heap.size, 1, none⟩ (.slice A3 m2 k3) = w5 at HO3 ⊢
    clear hb2 hHeld HJ4 HO2 z0 z1 z2 z3 z4 HP HGn HJn HJ3 hg3 HO HC HC7 HU HC3
    go_wp2
    go_loopg [] k1 (fun kq w' => ∃ (q : List Int) (b : Bool) (v : Value) (l : List Int), Hid (ashlarref01_Over.l1 kq q i d0 l0 d1 l1 b l = some (r1, r2, r3, r4)) ∧ kq ≤ k1 ∧ Hid (Ov w d0 d1 (some ad0) A1 n m0 l1.length m1 gq n w1.heap.size w' q b v l))
    case atStart => exact ⟨_, _, _, _, H, Nat.le_refl _, HO3⟩
    case round =>
     clear HO3 H
     obtain ⟨q, b, v, l, H, hk2, HO⟩ := hrel
     cases gk with
     | zero => have := H.out; simp [ashlarref01_Over.l1] at this
     | succ k2 =>
      have h := H.out
      clear H
      simp only [ashlarref01_Over.l1] at h
      obtain ⟨p0, p1, p2, p3, p4, p5, p6⟩ := Ov.cells HO
      obtain ⟨A7, c7, rfl, -, hC7⟩ := HO.out.fl.read
      have HC7 := Lib.hid hC7
      have HRb := Lib.hid (Kd.C_below HR1.out HO.out.below)
      replace h := Option.bind_eq_some_iff.1 h
      obtain ⟨t, ht, h⟩ := h
      have HT := Lib.hid ht
      clear ht hC7
      by_cases c1 : t ≥ 0
      ·rw [if_pos c1] at h
       replace h := Option.bind_eq_some_iff.1 h
       obtain ⟨l', hl', h⟩ := h
       replace h := Option.bind_eq_some_iff.1 h
       obtain ⟨⟨x1, x2⟩, hx, h⟩ := h
       replace h := ite_some h
       obtain ⟨-, h⟩ := h
       replace h := ite_some h
       obtain ⟨c2, h⟩ := h
       rw [← HO.out.fq.lit.1] at c2
       rw [Int.toNat_natCast] at h
       have HA := Lib.hid hl'
       have HU := Lib.hid hx
       have H := Lib.hid h
       have e1 := eq_true c1
       have b2 : (i < n) = True := eq_true (by omega)
       clear h hx hl' c1
       go_wp2_with fail
       refine (size_any HC7.out HRb.out HT.out).mono ?_
       rintro e w2 ⟨rfl, rfl⟩
       go_wp2_with fail
       refine (apart_any HC7.out HRb.out HA.out).mono ?_
       rintro e w3 ⟨v3, rfl, hJ3, hb3⟩
       obtain ⟨A3, n3, k3, rfl⟩ := hJ3.sh
       have HJ3 := Lib.hid hJ3
       have HB3 := Lib.hid hb3
       clear hJ3 hb3
       go_wp2_with fail
       refine (cut_J HJ3.out HU.out).mono ?_
       rintro e w4 ⟨m4, rfl, hJ4, hb4⟩
       have hb := HB3.out.trans (hb4.mono HB3.out.size)
       obtain ⟨-, -, z0, z1, z2, z3, z4⟩ := Ov.cells (Ov.keep HO hb)
       have HO3 := Ov.rest HO hb hJ4 (b' := x1)
       obtain ⟨y0, y1, hg⟩ := HO3.out.fq.cell (i := i) (by omega)
       have HO4 := Ov.quo HO3 i (wrap64 (rd q i + 1))
       clear hb hJ4 hb4 HJ3 HB3 HO HO3 HC7 HRb HT HA HU c2 p0 p1 p2 p3 p4 p5 p6
       go_wp2
       go_roundg k2
       case measure => omega
       case rel => exact ⟨_, _, _, _, H, by omega, HO4⟩
      ·rw [if_neg c1] at h
       have e1 := eq_false c1
       have H := Lib.hid h
       clear h c1
       go_wp2_with fail
       refine (size_any HC7.out HRb.out HT.out).mono ?_
       rintro e w2 ⟨rfl, rfl⟩
       go_wp2
       go_roundg k2
       case measure => omega
       case rel => exact ⟨_, _, _, _, _, rfl, H, by omega, HO⟩
   ·rw [if_neg c1] at h
    replace h := Option.bind_eq_some_iff.1 h
    obtain ⟨⟨x1, x2⟩, hx, h⟩ := h
    simp only [Option.some.injEq, Prod.mk.injEq] at h
    obtain ⟨rfl, rfl, rfl, rfl⟩ := h
    have HU := Lib.hid hx
    have e1 := eq_false c1
    obtain ⟨A7, n7, c7, rfl⟩ := HO.out.fl.sh
    have HC := Lib.hid (show Cells [(⟨w1.heap.size, 0, none⟩, .bool b), (⟨w1.heap.size, 1, none⟩, .slice A7 n7 c7)] wr from ⟨p2, p3, trivial⟩)
    have hle : w.heap.size ≤ wr.heap.size := HO.out.below.size
    have HOd := Ov.keep HO ((Below.refl _ _).drew)
    clear hx c1 p0 p1 p2 p3 p4 p5
    go_wp2_with fail
    refine wp_region_L 5 (Hd _ wr w.heap.size) (by kernel_rfl) (⟨hle, HC.out.keep (Below.refl _ _).drew, (Below.refl _ _).drew⟩) (fun hHeld => ?_)
    refine tl0.go ?_
    refine tl1.go ?_
    refine tl3.go ?_
    refine wpAnyL_ready (rs := [2]) (by kernel_rfl) (by simp) (al2 (fun K hK => ?_) (AllReadyL.nil))
    focus go_simp
    focus (refine (cut_J HOd.out.fq HU.out).mono ?_; rintro e w2 ⟨m2, rfl, hJ4, hb2⟩; have HJ4 := Lib.hid hJ4; have HO2 := Ov.keep HOd hb2; clear hJ4)
    focus try simp only []
    refine hK.out _ _ (fun _ => ?_) (fun hHeld => ?_)
    ·exact hHeld.keep hb2
    focus (have hHeld := hHeld (by decide); clear hK K; refine Zp3g ?_)
    refine wpAnyL_ready (rs := [4]) (by kernel_rfl) (by simp) (al4 (fun K hK => ?_) (AllReadyL.nil))
    focus ((obtain ⟨z0, z1, z2, z3, z4⟩ := HO2.out.fr.cells; go_simp))
    refine hK.out _ _ (fun _ => ?_) (fun hHeld => ?_)
    ·exact ⟨hle, ⟨(Ov.fin HO2 _ _).1.cells.1, (Ov.fin HO2 _ _).1.cells.2.1, trivial⟩, (hHeld.below.setCell Z3g0 _).setCell Z3g0 _⟩
    focus (have hHeld := hHeld (by decide); clear hK K; refine Zp3g ?_)
    refine wpAnyL_ready (rs := [5]) (by kernel_rfl) (by simp) (al5 (fun K hK => ?_) (AllReadyL.nil))
    focus ((obtain ⟨-, y0, y1⟩ := HO2.out.fr.put (.bool x1) (.slice (some ⟨gq, 0, none⟩) m2 n); have HF := (Ov.fin HO2 (.bool x1) (.slice (some ⟨gq, 0, none⟩) m2 n)).2; obtain ⟨z0, z1, z2, z3, z4⟩ := HF.cells; go_simp))
    refine hK.out _ _ (fun h => absurd rfl h) (fun _ => ?_)
    focus (clear hK K; refine Zp3g ?_)
    refine wpAnyL_done (by kernel_rfl) ?_ _; rotate_left 1
    obtain ⟨-, s0, s1⟩ := HF.put (.bool b) (.slice A7 n7 c7)
    obtain ⟨a6, a7⟩ := HO2.out.fg
    have hB := HO2.out.below
    go_wp2
    refine bodyPost_ret (v := .tuple #[.agg #[.bool x1, .slice (some ⟨gq, 0, none⟩) m2 n], .agg #[.bool b, .slice A7 n7 c7]]) (by simp [results, Tryz.results132, go_sem, y0, y1, s0, s1]) rfl ⟨_, _, rfl, ((((HJ4.out.far (by omega) _).far (by omega) _).far (by omega) _).far (by omega) _).low (by omega), ((((HO2.out.fl.far (by omega) _).far (by omega) _).far (by omega) _).far (by omega) _).low (by omega), (((hB.setCell Z3g0 _).setCell Z3g0 _).setCell Z3g0 _).setCell Z3g0 _⟩
end Go.Proofs.YtbpjnkeilhfajaaGreat.Rf
end
