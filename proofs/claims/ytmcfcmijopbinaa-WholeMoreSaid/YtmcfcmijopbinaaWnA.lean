import Derived.Test.YtmcfcmijopbinaaLnK
import Derived.Laws.OwnMore
import Derived.Test.YtmcfcmijopbinaaLnD
section
/- A row that came is appended to a row of the call's own: cell by cell; what is read of it then. -/
namespace Go.Proofs.Ytmcfcmijopbinaa.Ln
open Go.RowKit Go.Proofs.Ytmcfcmijopbinaa.Num Go.Proofs.Ytmcfcmijopbinaa.Given Go.Proofs.YtmcfcmijopbinaaW.PrintWords
set_option linter.unusedVariables false
set_option linter.unusedSimpArgs false
theorem run_app_none {P : Program} {w : World} (base : Nat) (t ty e : TypeId) (i : TypeInfo) (size : Nat) (ht : P.underlying t = some (.slice e)) (hi : P.info? e = some i)
  (v : Value) (n c : Nat) (xs : List Value) (hown : w.ownsRow base e size v n xs) :
  (Builtin.append_ #[t, t] ty #[v, .slice none 0 c]).run P w = .ok v w := by
 rcases hown.2 with ⟨rfl, rfl⟩ | ⟨g, cap, cur, rfl, _, _, hnc, _⟩
 ·simp [Builtin.append_, run_underlying ht, sizeOf, typeInfo, hi, Builtin.lenOf, Builtin.firstCells]
 ·simp [Builtin.append_, run_underlying ht, sizeOf, typeInfo, hi, Builtin.lenOf, Builtin.firstCells, hnc, storeCells]
structure Raw (w : World) (A : Option Addr) (n size : Nat) (news : List Value) : Prop where
 len : news.length = n * size
 nil : A = none → n = 0
 cell : ∀ ad, A = some ad → ∀ j u, news[j]? = some u → w.cell? (ad.add j) = some u
 one : ∀ u, u ∈ news → u.oneCell' = true
theorem Raw.below {w w1 : World} {A : Option Addr} {n size : Nat} {news : List Value} (h : Raw w A n size news) (hb : Below w.heap.size w w1) : Raw w1 A n size news :=
 ⟨h.len, h.nil, fun ad e j u hj => kcell hb (h.cell ad e j u hj), h.one⟩
theorem wp_appR {P : Program} {w : World} {o : Oper} {a : Act} {K : Act → World → Prop} {Q : Exit → Act → World → Prop} (s x : Operand) (t : TypeId)
  (ho : o.op = .call { callee := .builtin .append, args := #[s, x], argTypes := #[t, t] })
  (base : Nat) (e : TypeId) (z : Value) (size bytes : Nat) (ht : P.underlying t = some (.slice e)) (hi : (P.info? e).map (fun i => (i.zero, i.size, i.bytes)) = some (some z, size, bytes)) (hzs : z.cells.size = size) (hsz : 0 < size)
  (v : Value) (n : Nat) (xs : List Value) (hs : a.eval s = v) (hown : w.ownsRow base e size v n xs)
  (A : Option Addr) (m c : Nat) (news : List Value) (hx : a.eval x = .slice A m c) (hr : Raw w A m size news)
  (h63 : n + m ≤ maxLen) (hbytes : (n + m) * bytes ≤ 140737488355328) (hbase : base ≤ w.heap.size)
  (h : ∀ v' w', Hid (w'.ownsRow base e size v' (n + m) (xs ++ news)) → w.grownBy w' v.ownBlock → K (a.put o.dst v') w') : o.wp P a w K Q := by
 cases hq : P.info? e with
 | none => rw [hq] at hi; cases hi
 | some i =>
  rw [hq] at hi
  injection hi with hi
  injection hi with h2 h3
  injection h3 with h3 h4
  cases A with
  | some ad => exact wp_append_own w s x t ho base e i z size bytes ht hq h2 h3 h4 hzs hsz v n xs hs hown ad m c news hx hr.len (hr.cell ad rfl) hr.one h63 hbytes hbase fun v' w' a1 a2 _ => h v' w' a1 a2
  | none =>
   have hm := hr.nil rfl
   subst hm
   have hn : news = [] := List.eq_nil_of_length_eq_zero (by rw [hr.len]; omega)
   subst hn
   have hrun := run_app_none (P := P) (w := w) base t o.type e i size ht hq v n c xs hown
   unfold Oper.wp
   simp [execOp, ho, resolve, invoke, builtin, hs, hx, hrun, Result.andThen]
   exact h v w (by rw [List.append_nil]; exact Lib.hid hown) ⟨rfl, rfl, rfl, Nat.le_refl _, fun _ _ _ => rfl⟩
theorem step_appR {P : Program} {ops : Array Oper} {o : Oper} {a : Act} {w : World} {K : Act → World → Prop} {Q : Exit → Act → World → Prop} {E : Prop} (hgd : o.guard = none) (s x : Operand) (t : TypeId)
  (ho : o.op = .call { callee := .builtin .append, args := #[s, x], argTypes := #[t, t] })
  (base : Nat) (e : TypeId) (z : Value) (size bytes : Nat) (ht : P.underlying t = some (.slice e)) (hi : (P.info? e).map (fun i => (i.zero, i.size, i.bytes)) = some (some z, size, bytes)) (hzs : z.cells.size = size) (hsz : 0 < size)
  (v : Value) (n : Nat) (xs : List Value) (hs : a.eval s = v) (hown : w.ownsRow base e size v n xs)
  (A : Option Addr) (m c : Nat) (news : List Value) (hx : a.eval x = .slice A m c) (hr : Raw w A m size news)
  (h63 : n + m ≤ maxLen) (hbytes : (n + m) * bytes ≤ 140737488355328) (hbase : base ≤ w.heap.size)
  (h : ∀ v' w', Hid (w'.ownsRow base e size v' (n + m) (xs ++ news)) → w.grownBy w' v.ownBlock → K (a.put o.dst v') w') :
  if Region.wanted o (yielded ops a.tmps) = true then Oper.wp P o a w K Q else E := by
 rw [if_pos (show Region.wanted o (yielded ops a.tmps) = true by simp [Region.wanted, hgd])]
 exact wp_appR s x t ho base e z size bytes ht hi hzs hsz v n xs hs hown A m c news hx hr h63 hbytes hbase h
theorem wpList_appR {P : Program} {w : World} {ops : Array Oper} {rest : List Oper} {o : Oper} {a : Act} {Q : Exit → Act → World → Prop} (hgd : o.guard = none) (s x : Operand) (t : TypeId)
  (ho : o.op = .call { callee := .builtin .append, args := #[s, x], argTypes := #[t, t] })
  (base : Nat) (e : TypeId) (z : Value) (size bytes : Nat) (ht : P.underlying t = some (.slice e)) (hi : (P.info? e).map (fun i => (i.zero, i.size, i.bytes)) = some (some z, size, bytes)) (hzs : z.cells.size = size) (hsz : 0 < size)
  (v : Value) (n : Nat) (xs : List Value) (hs : a.eval s = v) (hown : w.ownsRow base e size v n xs)
  (A : Option Addr) (m c : Nat) (news : List Value) (hx : a.eval x = .slice A m c) (hr : Raw w A m size news)
  (h63 : n + m ≤ maxLen) (hbytes : (n + m) * bytes ≤ 140737488355328) (hbase : base ≤ w.heap.size)
  (h : ∀ v' w', Hid (w'.ownsRow base e size v' (n + m) (xs ++ news)) → w.grownBy w' v.ownBlock → wpList P ops Q rest (a.put o.dst v') w') : wpList P ops Q (o :: rest) a w := by
 refine wpList_plain hgd fun K hK => ?_
 exact wp_appR s x t ho base e z size bytes ht hi hzs hsz v n xs hs hown A m c news hx hr h63 hbytes hbase fun v' w' h1 h2 => hK _ _ (h v' w' h1 h2)
def Enc {α : Type} (d : Kd α) (w : World) (xs : List α) (raws : List Value) : Prop := raws.length = xs.length * d.sz ∧ ∀ j p, xs[j]? = some p → ∃ cs, cs.length = d.sz ∧ d.K w p cs ∧ ∀ i u, cs[i]? = some u → raws[j * d.sz + i]? = some u
theorem Enc.below {α : Type} {d : Kd α} {w w1 : World} {xs : List α} {raws : List Value} (h : Enc d w xs raws) (hb : Below w.heap.size w w1) : Enc d w1 xs raws :=
 ⟨h.1, fun j p hj => by obtain ⟨cs, a, b, c⟩ := h.2 j p hj; exact ⟨cs, a, d.K_below hb b, c⟩⟩
theorem Enc.app {α : Type} {d : Kd α} {w : World} {xs ys : List α} {r1 r2 : List Value} (h1 : Enc d w xs r1) (h2 : Enc d w ys r2) : Enc d w (xs ++ ys) (r1 ++ r2) := by
 refine ⟨by rw [List.length_append, List.length_append, h1.1, h2.1, Nat.add_mul], fun j p hj => ?_⟩
 by_cases hlt : j < xs.length
 ·rw [List.getElem?_append_left hlt] at hj
  obtain ⟨cs, a, b, c⟩ := h1.2 j p hj
  refine ⟨cs, a, b, fun i u hu => ?_⟩
  have h3 := c i u hu
  rw [List.getElem?_append_left (List.getElem?_eq_some_iff.1 h3).1]
  exact h3
 ·rw [List.getElem?_append_right (Nat.le_of_not_lt hlt)] at hj
  obtain ⟨cs, a, b, c⟩ := h2.2 _ p hj
  refine ⟨cs, a, b, fun i u hu => ?_⟩
  have h3 := c i u hu
  have e : j * d.sz + i = r1.length + ((j - xs.length) * d.sz + i) := by
   rw [h1.1, Nat.sub_mul]
   have := Nat.mul_le_mul_right d.sz (Nat.le_of_not_lt hlt)
   omega
  rw [e, List.getElem?_append_right (Nat.le_add_right _ _), Nat.add_sub_cancel_left]
  exact h3
theorem Enc.one {α : Type} {d : Kd α} {w : World} {x : α} {cs : List Value} (hl : cs.length = d.sz) (h : d.K w x cs) : Enc d w [x] cs := by
 refine ⟨by rw [hl, List.length_singleton, Nat.one_mul], fun j p hj => ?_⟩
 match j, hj with
 | 0, hj => obtain rfl := Option.some.inj hj; exact ⟨cs, hl, h, fun i u hu => by rw [Nat.zero_mul, Nat.zero_add]; exact hu⟩
theorem Enc.nil {α : Type} (d : Kd α) (w : World) : Enc d w [] [] := ⟨by rw [List.length_nil, List.length_nil, Nat.zero_mul], fun j p hj => by cases hj⟩
theorem flatten_get {sz : Nat} : ∀ (L : List (List Value)), (∀ c, c ∈ L → c.length = sz) → ∀ j c, L[j]? = some c → ∀ i u, c[i]? = some u → L.flatten[j * sz + i]? = some u
 | a :: L, h, 0, c, hj, i, u, hu => by
  obtain rfl := Option.some.inj hj
  rw [Nat.zero_mul, Nat.zero_add, List.flatten_cons, List.getElem?_append_left (List.getElem?_eq_some_iff.1 hu).1]
  exact hu
 | a :: L, h, j + 1, c, hj, i, u, hu => by
  have hl := h a (List.mem_cons_self ..)
  rw [List.flatten_cons, List.getElem?_append_right (by rw [hl, Nat.add_mul]; omega), hl, show (j + 1) * sz + i - sz = j * sz + i by rw [Nat.add_mul]; omega]
  exact flatten_get L (fun c hc => h c (List.mem_cons_of_mem _ hc)) j c (by simpa using hj) i u hu
theorem flatten_len {sz : Nat} : ∀ (L : List (List Value)), (∀ c, c ∈ L → c.length = sz) → L.flatten.length = L.length * sz
 | [], h => by simp
 | a :: L, h => by rw [List.flatten_cons, List.length_append, h a (List.mem_cons_self ..), flatten_len L (fun c hc => h c (List.mem_cons_of_mem _ hc)), List.length_cons, Nat.add_mul]; omega
theorem chooseL {R : Nat → List Value → Prop} {n : Nat} (h : ∀ j, j < n → ∃ c, R j c) : ∃ f : Nat → List Value, ∀ j, j < n → R j (f j) := by
 induction n with
 | zero => exact ⟨fun _ => [], fun j hj => absurd hj (Nat.not_lt_zero _)⟩
 | succ n ih =>
  obtain ⟨f, hf⟩ := ih (fun j hj => h j (by omega))
  obtain ⟨c, hc⟩ := h n (by omega)
  refine ⟨fun j => if j = n then c else f j, fun j hj => ?_⟩
  dsimp only
  by_cases e : j = n
  ·rw [if_pos e, e]; exact hc
  ·rw [if_neg e]; exact hf j (by omega)
theorem raw_of {α : Type} {d : Kd α} (h1 : ∀ w x cs, d.K w x cs → ∀ u, u ∈ cs → u.oneCell' = true) {w : World} {A : Option Addr} {xs : List α} (h : d.C w A xs.length xs) (hsz : 0 < d.sz) : ∃ news, Raw w A xs.length d.sz news ∧ Enc d w xs news := by
 obtain ⟨-, hm, hc⟩ := h
 by_cases h0 : 0 < xs.length
 ·obtain ⟨ad, rfl, hj⟩ := hc h0
  have hex : ∀ j, j < xs.length → ∃ cs, cs.length = d.sz ∧ (∃ p, xs[j]? = some p ∧ d.K w p cs) ∧ ∀ i u, cs[i]? = some u → w.cell? (ad.add (j * d.sz + i)) = some u := fun j hlt => by
   obtain ⟨cs, a, b, c⟩ := hj j xs[j] (List.getElem?_eq_getElem hlt)
   exact ⟨cs, a, ⟨_, List.getElem?_eq_getElem hlt, b⟩, c⟩
  obtain ⟨f, hf⟩ := chooseL hex
  have hL : ∀ c, c ∈ (List.range xs.length).map f → c.length = d.sz := fun c hc => by
   obtain ⟨j, hj, rfl⟩ := List.mem_map.1 hc
   exact (hf j (List.mem_range.1 hj)).1
  have hlen : ((List.range xs.length).map f).flatten.length = xs.length * d.sz := by rw [flatten_len _ hL]; simp
  have hget : ∀ j, j < xs.length → ∀ i u, (f j)[i]? = some u → ((List.range xs.length).map f).flatten[j * d.sz + i]? = some u := fun j hlt i u hu => flatten_get _ hL j (f j) (by simp [hlt]) i u hu
  refine ⟨((List.range xs.length).map f).flatten, ⟨hlen, fun e => (by cases e), ?_, ?_⟩, hlen, ?_⟩
  ·intro ad' ead k u hk
   obtain rfl := Option.some.inj ead
   have hkl := (List.getElem?_eq_some_iff.1 hk).1
   rw [hlen] at hkl
   have hq : k / d.sz < xs.length := Nat.div_lt_of_lt_mul (by rw [Nat.mul_comm]; exact hkl)
   have hr : k % d.sz < d.sz := Nat.mod_lt _ hsz
   have e : k / d.sz * d.sz + k % d.sz = k := by rw [Nat.mul_comm]; exact Nat.div_add_mod _ _
   obtain ⟨a, b, c⟩ := hf _ hq
   have hu2 := hget _ hq (k % d.sz) _ (List.getElem?_eq_getElem (by rw [a]; exact hr))
   rw [e, hk] at hu2
   have := c (k % d.sz) u (by rw [List.getElem?_eq_getElem (by rw [a]; exact hr)]; exact hu2.symm)
   rw [e] at this
   exact this
  ·intro u hu
   obtain ⟨c, hc, hu⟩ := List.mem_flatten.1 hu
   obtain ⟨j, hj, rfl⟩ := List.mem_map.1 hc
   obtain ⟨-, ⟨p, -, hK⟩, -⟩ := hf j (List.mem_range.1 hj)
   exact h1 w p _ hK u hu
  ·intro j p hp
   have hlt := (List.getElem?_eq_some_iff.1 hp).1
   obtain ⟨a, ⟨q, hq, hK⟩, c⟩ := hf j hlt
   rw [hp] at hq
   obtain rfl := Option.some.inj hq
   exact ⟨f j, a, hK, hget j hlt⟩
 ·obtain rfl : xs = [] := List.eq_nil_of_length_eq_zero (by omega)
  exact ⟨[], ⟨by simp, fun _ => rfl, (fun _ _ j u hj => by cases hj), (fun u hu => by cases hu)⟩, Enc.nil d w⟩
theorem own_C {α : Type} {d : Kd α} {w : World} {base : Nat} {e : TypeId} {v : Value} {n : Nat} {raws : List Value} {xs : List α} (h : w.ownsRow base e d.sz v n raws) (he : Enc d w xs raws) (hn : xs.length = n) (hm : n ≤ maxLen) :
  ∃ A c, v = .slice A n c ∧ n ≤ c ∧ d.C w A n xs := by
 rcases h.2 with ⟨rfl, rfl⟩ | ⟨g, cap, cur, rfl, -, hb, hle, -, hs, ht⟩
 ·obtain rfl : xs = [] := List.eq_nil_of_length_eq_zero hn
  exact ⟨none, 0, rfl, Nat.le_refl _, Kd.C_nil d w⟩
 ·refine ⟨_, cap, rfl, hle, hn, by unfold maxLen at hm; omega, fun _ => ⟨_, rfl, fun j p hj => ?_⟩⟩
  obtain ⟨cs, h1, h2, h3⟩ := he.2 j p hj
  refine ⟨cs, h1, h2, fun i u hu => ?_⟩
  have e : (⟨g, 0, none⟩ : Addr).add (j * d.sz + i) = ⟨g, j * d.sz + i, none⟩ := by rw [Addr.add_lit, Nat.zero_add]
  rw [e, blk_cell hb]
  have h4 := h3 i u hu
  rw [← ht, List.getElem?_take] at h4
  split at h4
  ·simpa using h4
  ·cases h4
theorem row_one (w : World) (x : S25) (cs : List Value) (h : k25.K w x cs) : ∀ u, u ∈ cs → u.oneCell' = true := by
 obtain ⟨A, c, rfl, -, -⟩ := k25_open h
 intro u hu
 simp only [List.mem_cons, List.not_mem_nil, or_false] at hu
 rcases hu with rfl | rfl <;> rfl
end Go.Proofs.Ytmcfcmijopbinaa.Ln
end

section
/- linear.CheckPoint. -/
namespace Go.Proofs
theorem Z1c0 {p : Prop} (h : p := by first | exact Nat.le_refl _ | (simp; done) | (simp; omega) | omega) : p := h
end Go.Proofs
namespace Go.Proofs.Ytmcfcmijopbinaa.Ln
open Go.RowKit Go.Proofs.Ytmcfcmijopbinaa.Num Go.Proofs.Ytmcfcmijopbinaa.Given Go.Proofs.Ytmcfcmijopbinaa.Lin Go.Proofs.YtmcfcmijopbinaaW.PrintWords
set_option linter.unusedVariables false
set_option linter.unusedSimpArgs false
theorem point1_any (x : S43) (w : World) (h0 : In64 x.f0) (h1 : In64 x.f1) :
  Calls Try.prog 57 #[.agg #[.int .i64 x.f0, .int .i64 x.f1]] w fun e w' => e = .returned (.bool (!rightPQ x.f0 x.f1)) ∧ Below w.heap.size w w' := by
 have HR := Lib.hid (fun W => right_any x.f0 x.f1 W h0 h1)
 clear h0 h1
 go_enter Try.func57, Try.ntmps57
 go_wp2_with fail
 refine (HR.out _).mono ?_
 rintro e w1 ⟨rfl, hb1⟩
 go_wp2
 go_ret
 exact ⟨rfl, by refine Below.trans ?_ (hb1.mono Z1c0); exact (by repeat (first | exact Below.refl _ _ | with_reducible assumption | refine Below.alloc ?_ Z1c0 _ | refine Below.setCell ?_ Z1c0 _ | refine Below.drew ?_ | refine bdrewN ?_ _))⟩
def loopP (xs : List Rat) : List S25 → Bool → Option Bool
 | [], b => some b
 | r :: rs, b => if b = true ∧ r.f0.length = xs.length then (holdF r.f0 xs (r.f1 : Rat)).bind fun s => loopP xs rs (decide (s ≤ 0)) else loopP xs rs false
def PointEnd (ab : Nat) (o : Option Bool) (e : Ending) (w' : World) : Prop := match o with
 | some b => e = .returned (.tuple #[]) ∧ w'.heap[ab]? = some (.cells #[.bool b] 4 (0, 0))
 | none => e = .panicked LargeL
set_option maxHeartbeats 8000000 in
set_option maxRecDepth 100000 in
theorem point2_any (l : List S25) (xs : List Rat) (pts : List S43) (b0 : Bool) (A A' : Option Addr) (c c' : Nat) (rb ab pb : Nat) (w0 w : World) (hC : Kd.C k25 w0 A l.length l) (hc : l.length ≤ c) (hX : Kd.C k43 w0 A' pts.length pts) (hc' : pts.length ≤ c') (hB : Below w0.heap.size w0 w)
  (hin : ∀ r, r ∈ l → In64 r.f1 ∧ ∀ x, x ∈ r.f0 → In64 x) (hlen : pts.length = xs.length) (hpt : b0 = true → pts = xs.map ofQ ∧ ∀ x, x ∈ xs → Fit x)
  (h1 : w.heap[rb]? = some (.cells #[.slice A l.length c] 22 (0, 0))) (h2 : w.heap[ab]? = some (.cells #[.bool b0] 4 (0, 0))) (h3 : w.heap[pb]? = some (.cells #[.slice A' pts.length c'] 38 (0, 0))) (ha : w0.heap.size ≤ ab) (hra : rb ≠ ab) (hpa : pb ≠ ab) :
  Calls Try.prog 59 #[.pointer (some ⟨rb, 0, none⟩), .pointer (some ⟨ab, 0, none⟩), .pointer (some ⟨pb, 0, none⟩)] w fun e w' => PointEnd ab (loopP xs l b0) e w' ∧ Fp (fun k => k = ab) w w' := by
 obtain ⟨r, hr⟩ : ∃ r, loopP xs l b0 = r := ⟨_, rfl⟩
 rw [hr]
 have HC := Lib.hid hC
 have HX := Lib.hid hX
 have HB := Lib.hid hB
 have HI := Lib.hid hin
 have HL := Lib.hid hlen
 have HR := Lib.hid hr
 have HPT := Lib.hid hpt
 have H1 := Lib.hid h1
 have H2 := Lib.hid h2
 have H3 := Lib.hid h3
 have p1 : w.cell? ⟨rb, 0, none⟩ = some (.slice A l.length c) := blk_cell h1 0
 clear hC hX hB hin hr hlen hpt h1 h2 h3
 go_enter Try.func59, Try.ntmps59
 go_wp2
 go_loopw [7] (fun v wr => ∃ (j : Nat) (b : Bool), j ≤ l.length ∧ v = .int .i64 j ∧ (b = true → b0 = true) ∧ loopP xs (l.drop j) b = r ∧ wr.heap[ab]? = some (.cells #[.bool b] 4 (0, 0)) ∧ Fp (fun k => k = ab) w wr) (fun v _ => l.length - (intOf v).toNat)
 case atStart => exact ⟨0, b0, Nat.zero_le _, rfl, id, by rw [List.drop_zero]; exact HR.out, H2.out, Fp.refl _ _⟩
 case round =>
  obtain ⟨j, b, hj, rfl, hbb, hL, hP, hbr⟩ := hrel
  by_cases hjl : j < l.length
  ·have hmax := Kd.C_max HC.out
   obtain ⟨ad, B, d, e, x0, x1, l', C'⟩ := el_R HC.out hjl
   have hbw : Below w0.heap.size w0 wr := HB.out.trans (hbr.below HB.out.size (by intro i hi he; omega))
   have hin := HI.out _ (List.getElem_mem hjl)
   rw [List.drop_eq_getElem_cons hjl, loopP] at hL
   generalize l[j] = x at *
   replace x0 := (hbw.cell (World.block_lt_of_cell? w0 _ x0)).trans x0
   replace x1 := (hbw.cell (World.block_lt_of_cell? w0 _ x1)).trans x1
   subst e
   have EW := Lib.hid (wrapj (succ_lt hjl hmax))
   have za := blk_lt hP
   have q1 : wr.cell? ⟨ab, 0, none⟩ = some (.bool b) := blk_cell hP 0
   have q2 : wr.frozen? ⟨ab, 0, none⟩ = false := blk_frozen hP 0
   have hp3 := (hbr.block _ (blk_lt H3.out) hpa).trans H3.out
   have q3 : wr.cell? ⟨pb, 0, none⟩ = some (.slice A' pts.length c') := blk_cell hp3 0
   have zp := blk_lt hp3
   have HP3 := Lib.hid hp3
   have HP := Lib.hid hP
   have HBR := Lib.hid hbr
   have HBW := Lib.hid hbw
   have HCx := Lib.hid C'
   have HIx := Lib.hid hin
   clear hP hbr hbw hp3 C' hin hmax
   cases b with
   | false =>
    rw [if_neg (fun h => absurd h.1 (by decide))] at hL
    have HLL := Lib.hid hL
    clear hL
    go_wp2
    refine ⟨⟨j + 1, false, hjl, congrArg (Value.int .i64) EW.out, fun h => absurd h (by decide), HLL.out, ?hblk, ?hfp⟩, ?_⟩
    case hblk => exact blk_alloc (blk_put HP.out 0 _ rfl) _
    case hfp => exact (HBR.out.setCell (a := ⟨ab, 0, none⟩) (fun _ => rfl) _).alloc _
    rw [EW.out]
    simp only [intOf, Int.toNat_natCast]
    exact meas_lt hjl
   | true =>
    obtain ⟨hpe, hfit⟩ := HPT.out (hbb rfl)
    by_cases hxl : x.f0.length = pts.length
    ·rw [if_pos ⟨rfl, hxl.trans HL.out⟩] at hL
     have e1 : ((x.f0.length : Int) == (pts.length : Int)) = true := by rw [hxl]; exact beq_self_eq_true _
     have HXX := HX.out
     rw [hpe] at HXX
     have hh2 := fun W (hW : Below w0.heap.size w0 W) => holds_any x.f0 x.f1 xs B A' d c' w0 W (hxl.trans HL.out) HCx.out l' HXX (by rw [← HL.out]; exact hc') hW HIx.out.1 HIx.out.2 hfit
     rw [hxl, ← HL.out] at hh2
     have HH := Lib.hid hh2
     clear hh2
     clear hfit HXX hpe
     cases hh : holdF x.f0 xs (x.f1 : Rat) with
     | none =>
      rw [hh, Option.bind_none] at hL
      obtain rfl : r = none := hL.symm
      rw [hh] at HH
      clear hL hh
      go_wp2_with fail
      refine (HH.out _ (HBW.out.alloc HBW.out.size _)).mono ?_
      rintro e w2 ⟨he, hb2⟩
      obtain rfl : e = .panicked LargeL := he
      exact ⟨rfl, rfl, (HBR.out.alloc _).tr (Fp.of_below hb2)⟩
     | some s =>
      rw [hh, Option.bind_some] at hL
      rw [hh] at HH
      have HLL := Lib.hid hL
      clear hL hh
      go_wp2_with fail
      refine (HH.out _ (HBW.out.alloc HBW.out.size _)).mono ?_
      rintro e w2 ⟨he, hb2⟩
      obtain rfl : e = .returned (.bool (decide (s ≤ 0))) := he
      have hp2 := (hb2.block ab (by simp; omega)).trans (blk_alloc HP.out _)
      have r1 : w2.cell? ⟨ab, 0, none⟩ = some (.bool true) := blk_cell hp2 0
      have r2 : w2.frozen? ⟨ab, 0, none⟩ = false := blk_frozen hp2 0
      have HP2 := Lib.hid hp2
      have HB2 := Lib.hid ((HBR.out.alloc _).tr (Fp.of_below (S := fun k => k = ab) hb2))
      clear hp2 hb2
      go_wp2
      refine ⟨⟨j + 1, decide (s ≤ 0), hjl, congrArg (Value.int .i64) EW.out, fun _ => hbb trivial, HLL.out, ?hblk, ?hfp⟩, ?_⟩
      case hblk => exact blk_put HP2.out 0 _ rfl
      case hfp => exact HB2.out.setCell (a := ⟨ab, 0, none⟩) (fun _ => rfl) _
      rw [EW.out]
      simp only [intOf, Int.toNat_natCast]
      exact meas_lt hjl
    ·rw [if_neg (fun h => hxl (h.2.trans HL.out.symm))] at hL
     have HLL := Lib.hid hL
     have e1 : ((x.f0.length : Int) == (pts.length : Int)) = false := beq_eq_false_iff_ne.2 (fun h => hxl (by omega))
     clear hL hxl hpe hfit
     go_wp2
     refine ⟨⟨j + 1, false, hjl, congrArg (Value.int .i64) EW.out, fun h => absurd h (by decide), HLL.out, ?hblk, ?hfp⟩, ?_⟩
     case hblk => exact blk_alloc (blk_put HP.out 0 _ rfl) _
     case hfp => exact (HBR.out.setCell (a := ⟨ab, 0, none⟩) (fun _ => rfl) _).alloc _
     rw [EW.out]
     simp only [intOf, Int.toNat_natCast]
     exact meas_lt hjl
  ·have hjj : j = l.length := by omega
   subst hjj
   rw [List.drop_length, loopP] at hL
   obtain rfl : r = some b := hL.symm
   have HP := Lib.hid hP
   have HBR := Lib.hid hbr
   clear hL hP hbr
   go_wp2
   simp [bodyPost, results, Try.results59, go_sem]
   exact ⟨And.intro rfl HP.out, HBR.out⟩
end Go.Proofs.Ytmcfcmijopbinaa.Ln
end

section
/- linear.CheckPoint, whole. -/
namespace Go.Proofs
theorem Z1d0 {p : Prop} (h : p := by repeat (first | exact Below.refl _ _ | with_reducible assumption | refine Below.alloc ?_ (by first | exact Nat.le_refl _ | (simp; done) | (simp; omega) | omega) _ | refine Below.setCell ?_ (by first | exact Nat.le_refl _ | (simp; done) | (simp; omega) | omega) _ | refine Below.drew ?_ | refine bdrewN ?_ _)) : p := h
theorem Z1d1 {p : Prop} (h : p := by first | exact Nat.le_refl _ | (simp; done) | (simp; omega) | omega) : p := h
end Go.Proofs
namespace Go.Proofs.Ytmcfcmijopbinaa.Ln
open Go.RowKit Go.Proofs.Ytmcfcmijopbinaa.Num Go.Proofs.Ytmcfcmijopbinaa.Given Go.Proofs.Ytmcfcmijopbinaa.Lin Go.Proofs.YtmcfcmijopbinaaW.PrintWords
set_option linter.unusedVariables false
set_option linter.unusedSimpArgs false
def toZ (r : S25) : RowZ := (r.f0, r.f1)
def toQ (x : S43) : Rat := mkRat x.f0 x.f1.toNat
def rightS (x : S43) : Bool := rightPQ x.f0 x.f1
def chkP (l : List S25) (pts : List S43) : Bool := pts.all rightS && checkPoint (l.map toZ) (pts.map toQ)
theorem right_is {x : S43} (h : rightS x = true) (h0 : In64 x.f0) (h1 : In64 x.f1) : ofQ (toQ x) = x ∧ Fit (toQ x) := by
 unfold rightS rightPQ at h
 rw [Bool.and_eq_true, Bool.and_eq_true, beq_iff_eq, beq_iff_eq] at h
 obtain ⟨b1, b2, b3⟩ := h
 have e : mk x.f0 x.f1 = (x.f0, x.f1, true) := by rw [Prod.ext_iff, Prod.ext_iff]; exact ⟨b2.symm, b3.symm, b1⟩
 obtain ⟨y, hy1, hy2⟩ := right_q (mk_true e).1
 have ey : toQ x = y := by
  unfold toQ
  rw [← hy1, ← hy2, Int.toNat_natCast]
  exact Rat.mkRat_self y
 rw [ey]
 refine ⟨?_, ?_⟩
 ·unfold ofQ; rw [hy1, hy2]
 ·unfold Fit; rw [hy1, hy2]; exact ⟨h0, h1.2⟩
theorem pts_is : ∀ {pts : List S43}, pts.all rightS = true → (∀ x, x ∈ pts → In64 x.f0 ∧ In64 x.f1) → pts = (pts.map toQ).map ofQ ∧ ∀ y, y ∈ pts.map toQ → Fit y
 | [], _, _ => ⟨rfl, by simp⟩
 | x :: l, h, hi => by
  rw [List.all_cons, Bool.and_eq_true] at h
  obtain ⟨a, b⟩ := right_is h.1 (hi x List.mem_cons_self).1 (hi x List.mem_cons_self).2
  obtain ⟨c, d⟩ := pts_is h.2 (fun y hy => hi y (List.mem_cons_of_mem _ hy))
  refine ⟨?_, ?_⟩
  ·rw [List.map_cons, List.map_cons, a, ← c]
  ·intro y hy
   rw [List.map_cons] at hy
   rcases List.mem_cons.1 hy with rfl | hy
   ·exact b
   ·exact d y hy
theorem loopP_false (xs : List Rat) : ∀ l, loopP xs l false = some false
 | [] => rfl
 | r :: l => by rw [loopP, if_neg (fun h => absurd h.1 (by decide)), loopP_false xs l]
theorem loopP_true (xs : List Rat) : ∀ l, (loopP xs l true == some true) = checkPoint (l.map toZ) xs
 | [] => rfl
 | r :: l => by
  have ih := loopP_true xs l
  unfold checkPoint at ih ⊢
  rw [List.map_cons, List.all_cons, ← ih, loopP]
  unfold checkRow
  show _ = ((decide (r.f0.length = xs.length) && match holdF r.f0 xs (r.f1 : Rat) with | some s => decide (s ≤ 0) | none => false) && _)
  by_cases h : r.f0.length = xs.length
  ·rw [if_pos ⟨rfl, h⟩, decide_eq_true h, Bool.true_and]
   cases holdF r.f0 xs (r.f1 : Rat) with
   | none => rfl
   | some s =>
    rw [Option.bind_some]
    cases hd : decide (s ≤ 0) with
    | true => simp [hd]
    | false => simp [hd, loopP_false]
  ·rw [if_neg (fun k => h k.2), decide_eq_false h, Bool.false_and, Bool.false_and, loopP_false]; rfl
def outB (o : Option Bool) : Bool := match o with
 | some b => b
 | none => false
theorem chk_out {l : List S25} {pts : List S43} {b0 : Bool} (h : pts.all rightS = b0) : outB (loopP (pts.map toQ) l b0) = chkP l pts := by
 unfold chkP
 rw [h]
 cases b0 with
 | false => rw [loopP_false]; rfl
 | true =>
  rw [Bool.true_and, ← loopP_true]
  cases loopP (pts.map toQ) l true with
  | none => rfl
  | some b => cases b <;> rfl
theorem cf_point (args : Array Value) (w : World) : (callFunc 59 args).run Try.prog w = .ok (.enter 59 args) w := by kernel_rfl
set_option maxHeartbeats 8000000 in
set_option maxRecDepth 100000 in
theorem CheckPoint_any (l : List S25) (pts : List S43) (A A' : Option Addr) (c c' : Nat) (w : World) (hC : Kd.C k25 w A l.length l) (hc : l.length ≤ c) (hX : Kd.C k43 w A' pts.length pts) (hc' : pts.length ≤ c')
  (hin : ∀ r, r ∈ l → In64 r.f1 ∧ ∀ x, x ∈ r.f0 → In64 x) (hp : ∀ x, x ∈ pts → In64 x.f0 ∧ In64 x.f1) :
  Calls Try.prog 33 #[.slice A l.length c, .slice A' pts.length c'] w fun e w' => e = .returned (.bool (chkP l pts)) ∧ Below w.heap.size w w' := by
 have HA := Lib.hid (fun W (hW : Below w.heap.size w W) => anyQ (fun x => !rightS x) pts A' c' w W hX hc' hW (fun x hx W2 _ => point1_any x W2 (hp x hx).1 (hp x hx).2))
 have hany : (pts.any fun x => !rightS x) = !(pts.all rightS) := by rw [List.all_eq_not_any_not, Bool.not_not]
 rw [hany] at HA
 obtain ⟨b0, hb0⟩ : ∃ b0, pts.all rightS = b0 := ⟨_, rfl⟩
 rw [hb0] at HA
 obtain ⟨o, ho⟩ : ∃ o, loopP (pts.map toQ) l b0 = o := ⟨_, rfl⟩
 have hout := chk_out (l := l) hb0
 rw [ho] at hout
 have HO := Lib.hid hout
 have hloop := fun rb ab pb W hB h1 h2 h3 ha hra hpa => point2_any l (pts.map toQ) pts b0 A A' c c' rb ab pb w W hC hc hX hc' hB hin (by rw [List.length_map]) (fun h => pts_is (by rw [hb0]; exact h) hp) h1 h2 h3 ha hra hpa
 rw [ho] at hloop
 have HLP := Lib.hid hloop
 clear hC hX hany hloop hin hp hout hb0 ho
 rw [← HO.out]
 go_enter Try.func33, Try.ntmps33
 go_wp2_with fail
 refine (HA.out _ ?_).mono ?_
 ·exact Z1d0
 rintro e w1 ⟨rfl, hb1⟩
 have hz1 := hb1.size
 simp at hz1
 have k1 := hb1.block w.heap.size (by simp; omega)
 have k2 := hb1.block (w.heap.size + 1) (by simp)
 rw [blk_alloc (blk_new w _) _] at k1
 rw [show w.heap.size + 1 = (w.alloc (.cells #[.slice A l.length c] 22)).heap.size by simp, blk_new] at k2
 have HK1 := Lib.hid k1
 have HK2 := Lib.hid k2
 have HB1 := Lib.hid (show Below w.heap.size w w1 by refine Below.trans ?_ (hb1.mono Z1d1); exact Z1d0)
 clear hb1 k1 k2
 go_wp2_with fail
 have hne : w1.heap.size ≠ (w1.alloc (.cells #[.bool b0] 4)).heap.size := by simp
 have HN := Lib.hid hne
 clear hne
 have hcall : ∀ W, Below (w1.alloc (.cells #[.bool b0] 4)).heap.size (w1.alloc (.cells #[.bool b0] 4)) W → Calls Try.prog 59 #[.pointer (some ⟨w.heap.size, 0, none⟩), .pointer (some ⟨w1.heap.size, 0, none⟩), .pointer (some ⟨w.heap.size + 1, 0, none⟩)] W fun e w' => PointEnd w1.heap.size o e w' ∧ Fp (fun k => k = w1.heap.size) W w' := by
  intro W hW
  refine HLP.out _ _ _ W (((HB1.out.alloc HB1.out.size _)).trans (hW.mono (by simp; omega))) ((hW.block _ (by simp; omega)).trans (blk_alloc HK1.out _)) ((hW.block _ (by simp)).trans (blk_new _ _)) ((hW.block _ (by simp; omega)).trans (blk_alloc ?_ _)) (by omega) (by omega) (by omega)
  have := HK2.out
  simpa using this
 have HC := Lib.hid hcall
 clear hcall
 cases o with
 | none =>
  refine (fits_no 59 _ (fun k => k = w1.heap.size) (fun _ => True) _ (by rintro k rfl; simp) (cf_point _) (fun W hW => (HC.out W hW).mono (fun e w' h => ⟨h.1, h.2, trivial⟩))).mono ?_
  rintro e w3 ⟨rfl, hF, _⟩
  have HF := Lib.hid hF
  clear hF
  go_wp2
  go_ret
  exact ⟨rfl, (HB1.out.alloc HB1.out.size _).trans (HF.out.below (by simp; omega) (by intro i hi he; omega))⟩
 | some b =>
  refine (fits_ok 59 _ (fun k => k = w1.heap.size) (fun W => W.heap[w1.heap.size]? = some (.cells #[.bool b] 4 (0, 0))) _ (by rintro k rfl; simp) (cf_point _) (fun W hW => (HC.out W hW).mono (fun e w' h => ⟨h.1.1, h.2, h.1.2⟩))).mono ?_
  rintro e w3 ⟨rfl, hF, W', hQ, hsz, hk⟩
  have q1 : w3.cell? ⟨w1.heap.size, 0, none⟩ = some (.bool b) := blk_cell ((hk _ (blk_lt hQ) HN.out).trans hQ) 0
  have HF := Lib.hid hF
  clear hF hk hQ hsz
  go_wp2
  go_ret
  exact ⟨rfl, (HB1.out.alloc HB1.out.size _).trans (HF.out.below (by simp; omega) (by intro i hi he; omega))⟩
end Go.Proofs.Ytmcfcmijopbinaa.Ln
end

section
/- num's Floor and Ceil at rats; the closure of whole.Solve's IndexFunc. -/
namespace Go.Proofs
theorem Z400 {p : Prop} (h : p := by repeat (first | exact Below.refl _ _ | with_reducible assumption | refine Below.alloc ?_ (by first | exact Nat.le_refl _ | (simp; done) | (simp; omega) | omega) _ | refine Below.setCell ?_ (by first | exact Nat.le_refl _ | (simp; done) | (simp; omega) | omega) _ | refine Below.drew ?_ | refine bdrewN ?_ _)) : p := h
theorem Z401 {p : Prop} (h : p := by first | exact Nat.le_refl _ | (simp; done) | (simp; omega) | omega) : p := h
end Go.Proofs
namespace Go.Proofs.Ytmcfcmijopbinaa.Ln
open Go.RowKit Go.Proofs.Ytmcfcmijopbinaa.Num Go.Proofs.Ytmcfcmijopbinaa.Given Go.Proofs.Ytmcfcmijopbinaa.Lin Go.Proofs.YtmcfcmijopbinaaW.PrintWords
set_option linter.unusedVariables false
set_option linter.unusedSimpArgs false
theorem floor_parts (x : Rat) : x.floor = if x.num.tmod (x.den : Int) < 0 then x.num.tdiv (x.den : Int) - 1 else x.num.tdiv (x.den : Int) := by
 have hd : (0 : Int) < (x.den : Int) := by have := x.den_pos; omega
 rw [Rat.floor_def]
 have h1 := Int.mul_tdiv_add_tmod x.num x.den
 have h2 := Int.tmod_lt_of_pos x.num hd
 have h3 : -(x.den : Int) < x.num.tmod x.den := by
  have := Int.lt_tmod_of_pos x.num hd
  omega
 split
 ·rename_i hn
  have := (@Int.ediv_emod_unique x.num x.den (x.num.tmod x.den + x.den) (x.num.tdiv x.den - 1) hd).2 ⟨by rw [Int.mul_sub, Int.mul_one]; omega, by omega, by omega⟩
  exact this.1
 ·rename_i hn
  have := (@Int.ediv_emod_unique x.num x.den (x.num.tmod x.den) (x.num.tdiv x.den) hd).2 ⟨by omega, by omega, by omega⟩
  exact this.1
theorem tmod_ne {x : Rat} (h : x.den ≠ 1) : x.num.tmod (x.den : Int) ≠ 0 := by
 intro h0
 have hdv : (x.den : Int) ∣ x.num := Int.dvd_of_tmod_eq_zero h0
 have h1 : x.den ∣ x.num.natAbs := by
  have := Int.natAbs_dvd_natAbs.2 hdv
  rwa [Int.natAbs_natCast] at this
 have h2 := x.reduced
 exact h (Nat.Coprime.eq_one_of_dvd h2.symm h1)
theorem floor_in {x : Rat} (hx : Fit x) : In64 x.floor := by
 have hd : (0 : Int) < (x.den : Int) := by have := x.den_pos; omega
 obtain ⟨h1, h2⟩ := hx.1
 rw [Rat.floor_def]
 by_cases h0 : 0 ≤ x.num
 ·have h3 := Int.ediv_nonneg h0 (Int.le_of_lt hd)
  have h4 := Int.ediv_le_self (x.den : Int) h0
  exact ⟨by omega, by omega⟩
 ·have h3 := Int.ediv_neg_of_neg_of_pos (by omega : x.num < 0) hd
  have h4 : x.num ≤ x.num / (x.den : Int) := by
   refine (Int.le_ediv_iff_mul_le hd).2 ?_
   have : x.num * (x.den : Int) ≤ x.num * 1 := Int.mul_le_mul_of_nonpos_left (by omega) (by omega)
   omega
  exact ⟨by omega, by omega⟩
theorem floor_half {x : Rat} (hx : Fit x) (h : x.den ≠ 1) : In64 (-x.floor) ∧ In64 (x.floor + 1) := by
 have hd : (2 : Int) ≤ (x.den : Int) := by have := x.den_pos; omega
 obtain ⟨h1, h2⟩ := hx.1
 rw [Rat.floor_def]
 by_cases h0 : 0 ≤ x.num
 ·have h3 := Int.ediv_nonneg h0 (show 0 ≤ (x.den : Int) by omega)
  have h4 : x.num / (x.den : Int) * 2 ≤ x.num := by
   have h5 := Int.ediv_mul_le x.num (show (x.den : Int) ≠ 0 by omega)
   have : x.num / (x.den : Int) * 2 ≤ x.num / (x.den : Int) * (x.den : Int) := Int.mul_le_mul_of_nonneg_left hd h3
   omega
  exact ⟨⟨by omega, by omega⟩, ⟨by omega, by omega⟩⟩
 ·have h3 := Int.ediv_neg_of_neg_of_pos (by omega : x.num < 0) (show 0 < (x.den : Int) by omega)
  have h4 : -4611686018427387904 ≤ x.num / (x.den : Int) := by
   refine (Int.le_ediv_iff_mul_le (by omega)).2 ?_
   have : -4611686018427387904 * (x.den : Int) ≤ -4611686018427387904 * 2 := Int.mul_le_mul_of_nonpos_left (by omega) (by omega)
   omega
  exact ⟨⟨by omega, by omega⟩, ⟨by omega, by omega⟩⟩
set_option maxHeartbeats 4000000 in
set_option maxRecDepth 100000 in
theorem floor_q {x : Rat} (hx : Fit x) (w : World) : Calls Try.prog 18 #[rv x] w fun e w' => e = .returned (.int .i64 x.floor) ∧ Below w.heap.size w w' := by
 have hd : (0 : Int) < (x.den : Int) := by have := x.den_pos; omega
 have hfp := floor_parts x
 have hfi := floor_in hx
 obtain ⟨hp, hq⟩ := hx
 obtain ⟨q, hqe⟩ : ∃ q, x.num.tdiv (x.den : Int) = q := ⟨_, rfl⟩
 obtain ⟨m, hme⟩ : ∃ m, x.num.tmod (x.den : Int) = m := ⟨_, rfl⟩
 rw [hqe, hme] at hfp
 obtain ⟨f, hfe⟩ : ∃ f, x.floor = f := ⟨_, rfl⟩
 rw [hfe] at hfp hfi ⊢
 have e0 : ((0 : Int) < (x.den : Int)) = True := eq_true hd
 have e0n : (0 < x.den) = True := eq_true (by omega)
 have e1 : ((x.den : Int) = 0) = False := eq_false (by omega)
 have e2 : (x.den = 0) = False := eq_false (by have := x.den_pos; omega)
 have hqi : In64 q := by
  split at hfp
  ·rename_i hn
   have h1 := Int.mul_tdiv_add_tmod x.num x.den
   have h3 := Int.lt_tmod_of_pos x.num hd
   rw [hqe, hme] at h1
   rw [hme] at h3
   have h4 : x.num < 0 := by
    rcases Int.lt_or_le x.num 0 with h | h
    ·exact h
    ·have := Int.tmod_nonneg (x.den : Int) h
     omega
   have hq0 : q ≤ 0 := by
    rcases Int.lt_or_le 0 q with h | h
    ·have h5 : (x.den : Int) * 1 ≤ (x.den : Int) * q := Int.mul_le_mul_of_nonneg_left (by omega) (by omega)
     omega
    ·exact h
   exact ⟨by have := hfi.1; omega, by omega⟩
  ·rw [← hfp]; exact hfi
 have w1 : wrap64 q = q := wrap64_in hqi
 have w2 : IntKind.i64.wrap q = q := wrapi_in hqi
 have HFP := Lib.hid (And.intro hfp hfi)
 have HW := Lib.hid (And.intro w1 w2)
 clear hfp hfi hp hq hd hfe hqi w1 w2
 go_enter Try.func18, Try.ntmps18
 go_wp2_with fail
 refine (Num.right_any _ _ _).mono ?_
 rintro e w1 ⟨rfl, rfl⟩
 obtain ⟨w1, w2⟩ := HW.out
 by_cases hn : m < 0
 ·have e3 : (m < 0) = True := eq_true hn
  have hf := HFP.out
  rw [if_pos hn] at hf
  have w3 : wrap64 (q - 1) = q - 1 := wrap64_in (by rw [← hf.1]; exact hf.2)
  obtain ⟨hf1, hf2⟩ := hf
  subst hf1
  clear hn hf2 HFP HW
  go_wp2
  go_ret
  exact ⟨congrArg (fun z => Ending.returned (.int .i64 z)) w3, Z400⟩
 ·have e3 : (m < 0) = False := eq_false hn
  have hf := HFP.out
  rw [if_neg hn] at hf
  obtain ⟨hf1, hf2⟩ := hf
  subst hf1
  clear hn hf2 HFP HW
  go_wp2
  go_ret
  exact ⟨rfl, Z400⟩
set_option maxHeartbeats 4000000 in
set_option maxRecDepth 100000 in
theorem ceil_q {x : Rat} (hx : Fit x) (hd1 : x.den ≠ 1) (w : World) : Calls Try.prog 20 #[rv x] w fun e w' => e = .returned (.int .i64 x.ceil) ∧ Below w.heap.size w w' := by
 have hd : (0 : Int) < (x.den : Int) := by have := x.den_pos; omega
 have HF := Lib.hid (fun W => floor_q hx W)
 have hcf := ceil_floor hd1
 have hh := (floor_half hx hd1).2
 obtain ⟨m, hme⟩ : ∃ m, x.num.tmod (x.den : Int) = m := ⟨_, rfl⟩
 have hm0 : m ≠ 0 := by rw [← hme]; exact tmod_ne hd1
 obtain ⟨f, hfe⟩ : ∃ f, x.floor = f := ⟨_, rfl⟩
 rw [hfe] at hcf hh HF
 rw [hcf]
 have e0 : ((0 : Int) < (x.den : Int)) = True := eq_true hd
 have e0n : (0 < x.den) = True := eq_true (by omega)
 have e1 : ((x.den : Int) = 0) = False := eq_false (by omega)
 have e2 : (x.den = 0) = False := eq_false (by have := x.den_pos; omega)
 have e3 : (m = 0) = False := eq_false hm0
 have e3b : (m != 0) = true := bne_iff_ne.2 hm0
 have w3 : wrap64 (f + 1) = f + 1 := wrap64_in hh
 have HW := Lib.hid w3
 clear hx hd1 hd hcf hh hm0 hfe w3
 go_enter Try.func20, Try.ntmps20
 go_wp2_with fail
 refine (HF.out _).mono ?_
 rintro e w1 ⟨rfl, hb1⟩
 have q0 : w1.cell? ⟨w.heap.size, 0, none⟩ = some (.int .i64 x.num) := blk_cell (blk_below (blk_new w _) hb1) 0
 have q1 : w1.cell? ⟨w.heap.size, 1, none⟩ = some (.int .i64 (x.den : Int)) := blk_cell (blk_below (blk_new w _) hb1) 1
 have hz := hb1.size
 simp at hz
 have hzl : w.heap.size < w1.heap.size := by omega
 have HB := Lib.hid (show Below w.heap.size w w1 by refine Below.trans ?_ (hb1.mono Z401); exact Z400)
 clear hb1 hz
 go_wp2_with fail
 refine (Num.right_any _ _ _).mono ?_
 rintro e w2 ⟨rfl, rfl⟩
 go_wp2
 go_ret
 exact ⟨congrArg (fun z => Ending.returned (.int .i64 z)) HW.out, HB.out.alloc HB.out.size _⟩
end Go.Proofs.Ytmcfcmijopbinaa.Ln
end
