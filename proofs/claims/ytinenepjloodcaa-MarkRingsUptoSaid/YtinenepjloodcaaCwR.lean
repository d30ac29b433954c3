/- SMALL THINGS FOR WALKS: integers, ends, what a call need not know of its arguments. -/
import Derived.Test.YtinenepjloodcaaCwQ
import Derived.IntWalk
set_option linter.unusedVariables false
set_option linter.unusedSimpArgs false
namespace Go.Cw

abbrev vi (n : Int) : AV := .p (.int .i64 n)
abbrev vb (b : Bool) : AV := .p (.bool b)

theorem wrap64 {a : Int} (h : -9223372036854775808 ≤ a ∧ a < 9223372036854775808) : IntKind.i64.wrap a = a := by rw [IntKind.wrap_i64]; omega

theorem wkV_eq {n : Nat} {x y : AV} (h : x = y) (hu : y.under n) : wkV n x y := by subst h; exact .same hu
theorem wkV_p {n : Nat} {c : PV} : wkV n (.p c) (.p c) := .same trivial
theorem wkV_ptr {n k o : Nat} (h : k < n) : wkV n (.ptr k o) (.ptr k o) := .same h
theorem wkV_int {n : Nat} {k : IntKind} {a b : Int} (h : a = b) : wkV n (.p (.int k a)) (.p (.int k b)) := by subst h; exact .same trivial

mutual
theorem under_mono {n n' : Nat} (hn : n ≤ n') : ∀ {x : AV}, x.under n → x.under n'
  | .junk, _ => trivial
  | .p _, _ => trivial
  | .sl _ _ t, h => by cases t <;> first | trivial | exact Nat.lt_of_lt_of_le h hn
  | .agg cs, h => underL_mono hn (cs := cs) h
  | .tup cs, h => underL_mono hn (cs := cs) h
  | .ptr k _, h => Nat.lt_of_lt_of_le h hn
  | .ref _ _, _ => trivial
  | .map k, h => Nat.lt_of_lt_of_le h hn
  | .fn _ cs, h => underL_mono hn (cs := cs) h
  | .nilfn, _ => trivial
  | .nilptr, _ => trivial
  | .nilmap, _ => trivial
theorem underL_mono {n n' : Nat} (hn : n ≤ n') : ∀ {cs : List AV}, AV.underL n cs → AV.underL n' cs
  | [], _ => trivial
  | c :: cs, h => ⟨under_mono hn (x := c) h.1, underL_mono hn (cs := cs) h.2⟩
end

/-! ### What a call need not know -/

def fg : AV → AV
  | .sl n xs _ => .p (.sl n xs)
  | x => x

theorem rep_fg {G : Gh} {w : World} {x : AV} {v : Value} (h : Rep G w x v) : Rep G w (fg x) v := by
  cases x with
  | sl n xs t => cases h with | sl h _ => exact .p h
  | _ => exact h

theorem ASpec.fg {P : Program} {f : Nat} {args : List AV} {S : St} {r : AV} {S' : St} (h : ASpec P f (args.map fg) S r S') : ASpec P f args S r S' := by
  intro G w vs hS hr
  refine h G w vs hS ⟨by simpa using hr.1, fun i c v hc hv => ?_⟩
  simp only [List.getElem?_map, Option.map_eq_some_iff] at hc
  obtain ⟨c', hc', rfl⟩ := hc
  exact rep_fg (hr.2 i c' v hc' hv)

theorem ASpec.res {P : Program} {f : Nat} {args : List AV} {S : St} {r r' : AV} {S' : St} (h : ASpec P f args S r S') (e : r = r') : ASpec P f args S r' S' := by subst e; exact h

/-! ### Ends -/

section
variable {S0 : St} {F : Nat → AV} {n : Nat} {H : List (Nat × Blk)}

theorem q_fin_ret {res : List ARes} {r : AV} {rs : List AV} (hwf : S0.wf) (hr : resAs F (ST S0 n H) res = some rs) (hv : wkV S0.n (pack rs) r) (hk : keysP S0.n H) (hn : S0.n ≤ n) : endQ S0 res r S0 .ret F (ST S0 n H) := q_end_ret hwf hr hv hk hn
theorem q_fin_bool {t : Nat} {b c : Bool} (hwf : S0.wf) (hr : F t = .p (.bool b)) (hv : b = c) (hk : keysP S0.n H) (hn : S0.n ≤ n) : endQ S0 [.tmp t] (.p (.bool c)) S0 .ret F (ST S0 n H) :=
  q_end_ret (rs := [.p (.bool b)]) hwf (by simp [resAs, resA, hr]) (by subst hv; exact .same trivial) hk hn
theorem q_fin_int {t : Nat} {k : IntKind} {a b : Int} (hwf : S0.wf) (hr : F t = .p (.int k a)) (hv : a = b) (hk : keysP S0.n H) (hn : S0.n ≤ n) : endQ S0 [.tmp t] (.p (.int k b)) S0 .ret F (ST S0 n H) :=
  q_end_ret (rs := [.p (.int k a)]) hwf (by simp [resAs, resA, hr]) (by subst hv; exact .same trivial) hk hn

theorem res_nil {S : St} : resAs F S [] = some [] := rfl
theorem res_cons {S : St} {r : ARes} {rs : List ARes} {x : AV} {xs : List AV} (h : resA F S r = some x) (hs : resAs F S rs = some xs) : resAs F S (r :: rs) = some (x :: xs) := by simp [resAs, h, hs]
theorem res_tmp {S : St} {t : Nat} {x : AV} (h : F t = x) : resA F S (.tmp t) = some x := by simp [resA, h]
theorem res_tmp_p {S : St} {t : Nat} {c : PV} (h : F t = .p c) : resA F S (.tmp t) = some (.p c) := res_tmp h
theorem res_cellA {t k o j : Nat} {cs ds : List AV} (hx : F t = .ptr k o) (hk : getB S0.H H k = some (.cells cs)) (hl : o + j ≤ cs.length) (hd : (cs.drop o).take j = ds) : resA F (ST S0 n H) (.cellA j t) = some (.agg ds) := by
  simp [resA, hx, show (ST S0 n H).H k = _ from hk, hl, hd]
theorem res_cell1 {t k o : Nat} {cs : List AV} {v : AV} (hx : F t = .ptr k o) (hk : getB S0.H H k = some (.cells cs)) (hd : cs[o]? = some v) : resA F (ST S0 n H) (.cell1 t) = some v := by
  simp [resA, hx, show (ST S0 n H).H k = _ from hk, hd]
theorem q_fin {res : List ARes} {r : AV} {rs : List AV} (hwf : S0.wf) (hr : resAs F (ST S0 n H) res = some rs) (hv : pack rs = r) (hu : r.under S0.n) (hk : keysP S0.n H) (hn : S0.n ≤ n) : endQ S0 res r S0 .ret F (ST S0 n H) :=
  q_end_ret hwf hr (by subst hv; exact .same hu) hk hn

theorem q_iadrS_nat {P : Program} {m : CMode} {os : List AOper} {id : Nat} {S : St} {K : (Nat → AV) → St → Prop} {d : Nat} {x y : Opd} {sz : Nat} {nl : Bool} {xs : List (List PV)} {t : Tok} {kd : IntKind} {i : Nat} {e : List PV}
    (hx : (evalO F x).asSl = some (nl, xs, t)) (hi : evalO F y = .p (.int kd (i : Int))) (he : xs[i]? = some e) (hs : e.length = sz)
    (h : aops P m os (id + 1) (upd F d (.ref e 0)) S K) : aops P m (⟨some d, .iadrS sz x y, none⟩ :: os) id F S K :=
  q_iadrS hx hi (Int.natCast_nonneg i) (by simpa using he) hs h

section
variable {P : Program} {m : CMode} {os : List AOper} {id : Nat} {S : St} {K : (Nat → AV) → St → Prop} {d : Nat} {x y : Opd}
theorem q_min2 {k : IntKind} {a b : Int} (hx : evalO F x = .p (.int k a)) (hy : evalO F y = .p (.int k b)) (h : aops P m os (id + 1) (upd F d (.p (.int k (min a b)))) S K) : aops P m (⟨some d, .minmax false x [y], none⟩ :: os) id F S K := by
  refine q_minmax (v := .p (.int k (min a b))) ?_ h
  simp only [List.map_cons, List.map_nil, hx, hy, minmaxA]
  simp only [if_true, Bool.false_eq_true, if_false, Option.some.injEq, AV.p.injEq, PV.int.injEq, true_and]
  split <;> omega
theorem q_max2 {k : IntKind} {a b : Int} (hx : evalO F x = .p (.int k a)) (hy : evalO F y = .p (.int k b)) (h : aops P m os (id + 1) (upd F d (.p (.int k (max a b)))) S K) : aops P m (⟨some d, .minmax true x [y], none⟩ :: os) id F S K := by
  refine q_minmax (v := .p (.int k (max a b))) ?_ h
  simp only [List.map_cons, List.map_nil, hx, hy, minmaxA]
  simp only [if_true, Option.some.injEq, AV.p.injEq, PV.int.injEq, true_and]
  split <;> omega
theorem mul31 {a b : Int} (ha : -2147483647 ≤ a ∧ a ≤ 2147483647) (hb : -2147483647 ≤ b ∧ b ≤ 2147483647) : -4611686014132420609 ≤ a * b ∧ a * b ≤ 4611686014132420609 := by
  have h1 : a.natAbs * b.natAbs ≤ 2147483647 * 2147483647 := Nat.mul_le_mul (by omega) (by omega)
  have h2 : (a * b).natAbs = a.natAbs * b.natAbs := Int.natAbs_mul a b
  omega
theorem q_mul31 {a b : Int} (hx : evalO F x = .p (.int .i64 a)) (hy : evalO F y = .p (.int .i64 b)) (ha : -2147483647 ≤ a ∧ a ≤ 2147483647) (hb : -2147483647 ≤ b ∧ b ≤ 2147483647)
    (h : -4611686014132420609 ≤ a * b → a * b ≤ 4611686014132420609 → aops P m os (id + 1) (upd F d (.p (.int .i64 (a * b)))) S K) : aops P m (⟨some d, .arith .mul x y, none⟩ :: os) id F S K := by
  have h2 := mul31 ha hb
  exact q_mul hx hy (wrap64 (by omega)) (h h2.1 h2.2)
end
end

/-! ### Slices that grow -/

def tkTok : Option Nat → Tok
  | none => .full
  | some k => .vec k

/-- A variable that is appended to: nil as long as nothing was. -/
def outV (xs : List (List PV)) (tk : Option Nat) : AV := .sl tk.isNone xs (tkTok tk)

def vecB (tk : Option Nat) (len sz : Nat) (H : List (Nat × Blk)) : List (Nat × Blk) :=
  match tk with
  | none => H
  | some k => (k, .fr len sz) :: H

def slOf (xs : List (List PV)) : AV := .p (.sl xs.isEmpty xs)

section
variable {P : Program} {m : CMode} {os : List AOper} {id : Nat} {F : Nat → AV} {S0 : St} {K : (Nat → AV) → St → Prop} {d n : Nat} {H : List (Nat × Blk)} {x y : Opd}

theorem q_mov_out {xs : List (List PV)} {tk : Option Nat} {S : St} (hx : evalO F x = outV xs tk) (h : aops P m os (id + 1) (upd F d (outV xs tk)) S K) : aops P m (⟨some d, .mov x, none⟩ :: os) id F S K := q_mov hx h

theorem q_append_out {sz by_ : Nat} {tk : Option Nat} {n2 : Bool} {xs : List (List PV)} {y1 : List PV} {t2 : Tok} (hx : evalO F x = outV xs tk) (hy : (evalO F y).asSl = some (n2, [y1], t2)) (hwx : ∀ e ∈ xs, e.length = sz) (hwy : y1.length = sz)
    (hb : (xs.length + 1) * by_ ≤ 140737488355328) (hb2 : xs.length + 1 ≤ 9223372036854775807) (hk : ∀ k, tk = some k → getB S0.H H k = some (.fr xs.length sz))
    (h : ∀ k, (tk = none ∧ k = id) ∨ tk = some k → aops P m os (id + 1) (upd F d (outV (xs ++ [y1]) (some k))) (ST S0 n ((k, .fr (xs.length + 1) sz) :: H)) K) :
    aops P m (⟨some d, .append sz by_ x y, none⟩ :: os) id F (ST S0 n H) K := by
  have hwy' : ∀ e ∈ [y1], e.length = sz := by simpa using hwy
  cases tk with
  | none =>
    have hx' : (evalO F x).asSl = some (true, xs, .full) := by rw [hx]; rfl
    refine q_append_new hx' hy hwx hwy' hb hb2 fun k hk' => ?_
    have := h k (.inl ⟨rfl, hk'⟩)
    simpa [outV, tkTok] using this
  | some k =>
    have hx' : (evalO F x).asSl = some (false, xs, .vec k) := by rw [hx]; rfl
    refine q_append_vec hx' hy hwx hwy' hb hb2 (hk k rfl) ?_
    have := h k (.inr rfl)
    simpa [outV, tkTok] using this

theorem res_out {S : St} {t : Nat} {xs : List (List PV)} {tk : Option Nat} (h : F t = outV xs tk) : resAs F S [.tmp t] = some [outV xs tk] := by simp [resAs, resA, h]

theorem wkV_out {n : Nat} {xs : List (List PV)} {tk : Option Nat} (h : tk = none → xs = []) (h' : ∀ k, tk = some k → xs ≠ []) : wkV n (outV xs tk) (slOf xs) := by
  cases tk with
  | none => rw [h rfl]; exact .no _ _ _
  | some k =>
    have : xs.isEmpty = false := by have := h' k rfl; cases xs <;> simp_all
    rw [slOf, this]
    exact .no _ _ _

theorem under_out {n : Nat} {xs : List (List PV)} {tk : Option Nat} (h : ∀ k, tk = some k → k < n) : (outV xs tk).under n := by
  cases tk with
  | none => trivial
  | some k => exact h k rfl

theorem keys_vecB {n : Nat} {tk : Option Nat} {len sz : Nat} (h : ∀ k, tk = some k → n ≤ k) (hH : keysP n H) : keysP n (vecB tk len sz H) := by
  cases tk with
  | none => exact hH
  | some k => exact ⟨h k rfl, hH⟩

theorem get_vecB {Hf : Nat → Option Blk} {tk : Option Nat} {len sz : Nat} {k : Nat} {b : Blk} (h : tk ≠ some k) (hH : getB Hf H k = some b) : getB Hf (vecB tk len sz H) k = some b := by
  cases tk with
  | none => exact hH
  | some j => exact get_other (fun e => h (by rw [e])) hH

theorem get_vecB_self {Hf : Nat → Option Blk} {tk : Option Nat} {len sz : Nat} : ∀ k, tk = some k → getB Hf (vecB tk len sz H) k = some (.fr len sz) := by
  rintro k rfl; exact get_same

theorem blks_vecB {Hf : Nat → Option Blk} {l : List (Nat × Blk)} {n : Nat} {tk : Option Nat} {len sz : Nat} (h : ∀ k, tk = some k → getB Hf l k = some (.fr len sz) ∧ k < n) (hH : blksP Hf l n H) : blksP Hf l n (vecB tk len sz H) := by
  cases tk with
  | none => exact hH
  | some k => exact ⟨⟨(h k rfl).1, (h k rfl).2, trivial⟩, hH⟩

theorem sep1 {x y k o k' o' : Nat} {r : List (Nat × Nat)} (hx : F x = .ptr k o) (hy : F y = .ptr k' o') (hk : k ≠ k') (hr : sepAll F r) : sepAll F ((x, y) :: r) := by
  refine ⟨?_, hr⟩
  rw [hx, hy]
  exact hk

theorem q_loadA_row {S : St} {j : Nat} {cs : List PV} (hx : evalO F x = .ref cs 0) (hl : cs.length = j) (h : aops P m os (id + 1) (upd F d (.agg (cs.map .p))) S K) : aops P m (⟨some d, .loadA j x, none⟩ :: os) id F S K := by
  subst hl
  exact q_loadA_ref hx (by omega) (by simp) h

theorem q_fin_fz {res : List ARes} {r : AV} {rs cs : List AV} {l : List PV} {k : Nat} (hwf : S0.wf) (hr : resAs F (ST S0 n H) res = some rs) (hk : getB S0.H H k = some (.cells cs)) (hl : toPVs cs = some l) (h0 : S0.n ≤ k) (hv : fzV k l (pack rs) = r) (hu : r.under S0.n)
    (hkeys : keysP S0.n H) (hn : S0.n ≤ n) : endQ S0 res r S0 .ret F (ST S0 n H) := by
  refine .inr ⟨⟨rs, k, cs, l, hr, hk, hl, by subst hv; exact .same hu, ⟨Nat.le_refl _, hn, fun j b hb => ?_⟩⟩⟩
  have hj : j < S0.n := by
    cases Nat.lt_or_ge j S0.n with
    | inl q => exact q
    | inr q => rw [hwf j q] at hb; cases hb
  refine ⟨?_, .inl hb⟩
  show (if j = k then none else getB S0.H H j) = some b
  rw [if_neg (by omega), getB_new hkeys hj]
  exact hb
end

theorem drop_cons {α : Type} {xs : List α} {i : Nat} (h : i < xs.length) : xs.drop i = xs[i] :: xs.drop (i + 1) := (List.drop_eq_getElem_cons h)

theorem get_map {α β : Type} {f : α → β} {xs : List α} {i : Nat} (h : i < xs.length) : (xs.map f)[i]? = some (f xs[i]) := by simp [h]

section
variable {P : Program} {m : CMode} {os : List AOper} {id : Nat} {F : Nat → AV} {S S0 : St} {K : (Nat → AV) → St → Prop} {d n : Nat} {H : List (Nat × Blk)} {x y c : Opd} {dst : Option Nat}
theorem q_eql_t {k : IntKind} {a b : Int} (hx : evalO F x = .p (.int k a)) (hy : evalO F y = .p (.int k b)) (hb : decide (a = b) = true) (h : aops P m os (id + 1) (upd F d (.p (.bool true))) S K) : aops P m (⟨some d, .arith .eql x y, none⟩ :: os) id F S K :=
  q_eql hx hy (fun _ => h) (fun e => absurd (of_decide_eq_true hb) e)
theorem q_eqA_t {L : List (Option IntKind)} {cs ds : List AV} (hx : evalO F x = .agg cs) (hy : evalO F y = .agg ds) (hb : eqCells L cs ds = some true) (h : aops P m os (id + 1) (upd F d (.p (.bool true))) S K) :
    aops P m (⟨some d, .eqA L false x y, none⟩ :: os) id F S K := q_eqA hx hy hb (fun _ => h) (fun e => by cases e)
theorem q_mov_tup {vs : List AV} (hx : evalO F x = .tup vs) (h : aops P m os (id + 1) (upd F d (.tup vs)) S K) : aops P m (⟨some d, .mov x, none⟩ :: os) id F S K := q_mov hx h
theorem q_lenS_c {nl : Bool} {xs : List (List PV)} {t : Tok} {l : Nat} (hx : (evalO F x).asSl = some (nl, xs, t)) (hl : xs.length = l) (h : aops P m os (id + 1) (upd F d (.p (.int .i64 l))) S K) : aops P m (⟨some d, .lenS x, none⟩ :: os) id F S K := by
  subst hl; exact q_lenS hx h
end

end Go.Cw
