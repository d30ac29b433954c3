/- THE RULES BY WHICH A BODY IS GONE THROUGH. -/
import Derived.Test.YtinenepjloodcaaCwP
set_option linter.unusedVariables false
set_option linter.unusedSimpArgs false
namespace Go.Cw

/-! ### States and frames written out -/

def getB (H : Nat → Option Blk) : List (Nat × Blk) → Nat → Option Blk
  | [], i => H i
  | (k, b) :: l, i => if i = k then some b else getB H l i

/-- A state: its names, and the blocks beyond an elder state's. -/
def ST (S0 : St) (n : Nat) (l : List (Nat × Blk)) : St := ⟨n, getB S0.H l⟩

def sp : List (Nat × AV) → Nat → AV
  | [], _ => .junk
  | (k, v) :: l, i => match Nat.beq i k with
    | true => v
    | false => sp l i

def fitsP (n : Nat) (F : Nat → AV) : List (Nat × AV) → Prop
  | [] => True
  | (k, v) :: l => wkV n (F k) v ∧ fitsP n F l

def keysP (n : Nat) : List (Nat × Blk) → Prop
  | [] => True
  | (k, _) :: l => n ≤ k ∧ keysP n l

def blksP (H : Nat → Option Blk) (l : List (Nat × Blk)) (n : Nat) : List (Nat × Blk) → Prop
  | [] => True
  | (k, b) :: l' => (getB H l k = some b ∧ k < n ∧ b.under n) ∧ blksP H l n l'

theorem wkV_sp {n : Nat} {F : Nat → AV} : ∀ {l : List (Nat × AV)}, fitsP n F l → ∀ t, wkV n (F t) (sp l t)
  | [], _, t => .junk _
  | (k, v) :: l, h, t => by
    simp only [sp]
    split
    · rename_i e; rw [Nat.eq_of_beq_eq_true e]; exact h.1
    · exact wkV_sp h.2 t

theorem getB_new {H : Nat → Option Blk} {n : Nat} : ∀ {l : List (Nat × Blk)}, keysP n l → ∀ {i : Nat}, i < n → getB H l i = H i
  | [], _, i, _ => rfl
  | (k, b) :: l, h, i, hi => by
    simp only [getB]
    rw [if_neg (by have := h.1; omega)]
    exact getB_new h.2 hi

theorem blksP_get {H : Nat → Option Blk} {l : List (Nat × Blk)} {n : Nat} : ∀ {l' : List (Nat × Blk)}, blksP H l n l' → ∀ {i : Nat} {b : Blk}, getB H l' i = some b → (getB H l i = some b ∧ i < n ∧ b.under n) ∨ H i = some b
  | [], _, i, b, h => .inr h
  | (k, b') :: l', h, i, b, hi => by
    simp only [getB] at hi
    split at hi
    · rename_i e
      simp only [Option.some.injEq] at hi
      subst hi
      rw [e]
      exact .inl h.1
    · exact blksP_get h.2 hi

theorem wkS_ST {S0 : St} {n n' : Nat} {l l' : List (Nat × Blk)} (hwf : S0.wf) (lo : S0.n ≤ n') (hi : n' ≤ n) (hk : keysP S0.n l) (hb : blksP S0.H l n' l') : wkS S0 (ST S0 n l) (ST S0 n' l') := by
  refine ⟨lo, hi, fun k b h => ?_⟩
  rcases blksP_get hb h with h | h
  · exact ⟨h.1, .inr h.2⟩
  · refine ⟨?_, .inl h⟩
    show getB S0.H l k = some b
    rw [getB_new hk]
    · exact h
    · cases Nat.lt_or_ge k S0.n with
      | inl q => exact q
      | inr q => rw [hwf k q] at h; cases h

theorem wk_mk {S0 : St} {F : Nat → AV} {n n' : Nat} {l l' : List (Nat × Blk)} {fr : List (Nat × AV)} (hwf : S0.wf) (lo : S0.n ≤ n') (hi : n' ≤ n) (hk : keysP S0.n l) (hb : blksP S0.H l n' l') (hf : fitsP n' F fr) :
    Wk S0 F (ST S0 n l) (sp fr) (ST S0 n' l') := ⟨wkS_ST hwf lo hi hk hb, wkV_sp hf⟩

theorem ST_nil (S : St) : ST S S.n [] = S := rfl
theorem ST_put (S0 : St) (n : Nat) (l : List (Nat × Blk)) (k : Nat) (b : Blk) : (ST S0 n l).put k b = ST S0 n ((k, b) :: l) := rfl

theorem get_same {H : Nat → Option Blk} {l : List (Nat × Blk)} {k : Nat} {b : Blk} : getB H ((k, b) :: l) k = some b := by simp [getB]
theorem get_other {H : Nat → Option Blk} {l : List (Nat × Blk)} {k i : Nat} {b c : Blk} (h : i ≠ k) (h2 : getB H l i = some c) : getB H ((k, b) :: l) i = some c := by simp [getB, h, h2]

/-! ### It is monotone -/

theorem aops_mono {P : Program} {m : CMode} : ∀ {ops : List AOper} {id : Nat} {F : Nat → AV} {S : St} {K K' : (Nat → AV) → St → Prop}, (∀ F S, K F S → K' F S) → aops P m ops id F S K → aops P m ops id F S K'
  | [], id, F, S, K, K', hK, h => hK F S h
  | o :: os, id, F, S, K, K', hK, h => by
    simp only [aops, step] at h ⊢
    split at h
    · rename_i q hq
      split at h
      · rename_i e; rw [if_pos e]; exact act_mono (fun v S' h => aops_mono hK h) h
      · rename_i e; rw [if_neg e]; exact aops_mono hK h
    · exact h

theorem awp_mono {P : Program} {S0 : St} {c : ACode} : ∀ {F : Nat → AV} {S : St} {Q Q' : Exit → (Nat → AV) → St → Prop}, awp P S0 c F S Q → (∀ e F S, Q e F S → Q' e F S) → awp P S0 c F S Q' := by
  induction c with
  | skip => intro F S Q Q' h hQ; exact hQ _ _ _ h
  | reg ops => intro F S Q Q' h hQ; exact aops_mono (fun F S h => hQ _ _ _ h) h
  | drawn m seps ops => intro F S Q Q' h hQ; exact aops_mono (fun F S h => ⟨h.1, hQ _ _ _ h.2⟩) h
  | seq a b iha ihb =>
    intro F S Q Q' h hQ
    refine iha h fun e F S h => ?_
    cases e with
    | normal => exact ihb h hQ
    | exit id => exact hQ _ _ _ h
    | goto l => exact hQ _ _ _ h
    | ret => exact hQ _ _ _ h
    | panic ch => exact hQ _ _ _ h
    | outgrown => exact hQ _ _ _ h
  | cond c a b iha ihb =>
    intro F S Q Q' h hQ
    simp only [awp] at h ⊢
    split at h
    · split at h
      · rename_i e; rw [if_pos e]; exact iha h hQ
      · rename_i e; rw [if_neg e]; exact ihb h hQ
    · exact h.elim
  | block id b ih =>
    intro F S Q Q' h hQ
    refine ih h fun e F S h => ?_
    cases e with
    | exit id' =>
      simp only [blockQ] at h ⊢
      split at h
      · rename_i e; rw [if_pos e]; exact hQ _ _ _ h
      · rename_i e; rw [if_neg e]; exact hQ _ _ _ h
    | normal => exact hQ _ _ _ h
    | goto l => exact hQ _ _ _ h
    | ret => exact hQ _ _ _ h
    | panic ch => exact hQ _ _ _ h
    | outgrown => exact hQ _ _ _ h
  | loop b ih =>
    rintro F S Q Q' ⟨I, h1, h2⟩ hQ
    refine ⟨I, h1, fun j F S hI => ih (h2 j F S hI) fun e F S h => ?_⟩
    cases e with
    | normal => exact h
    | exit id => exact hQ _ _ _ h
    | goto l => exact hQ _ _ _ h
    | ret => exact hQ _ _ _ h
    | panic ch => exact hQ _ _ _ h
    | outgrown => exact hQ _ _ _ h
  | exit id => intro F S Q Q' h hQ; exact hQ _ _ _ h
  | ret => intro F S Q Q' h hQ; exact hQ _ _ _ h

/-! ### Operations -/

section
variable {P : Program} {m : CMode} {os : List AOper} {id : Nat} {F : Nat → AV} {S S0 : St} {K : (Nat → AV) → St → Prop} {d n : Nat} {H : List (Nat × Blk)} {x y c : Opd} {dst : Option Nat}

theorem q_nil (h : K F S) : aops P m [] id F S K := h
theorem q_nil_drawn {Q : Exit → (Nat → AV) → St → Prop} {seps : List (Nat × Nat)} (hs : sepAll F seps) (h : Q .normal F S) : aops P m [] id F S (fun F' S' => sepAll F' seps ∧ Q .normal F' S') := ⟨hs, h⟩

theorem q_on {op : AOp} {t : Nat} {w : Bool} (hg : F t = .p (.bool w)) (h : aops P m (⟨dst, op, none⟩ :: os) id F S K) : aops P m (⟨dst, op, some (t, w)⟩ :: os) id F S K := by
  simp only [aops, step, wantedA, hg] at h ⊢
  simpa using h
theorem q_off {op : AOp} {t : Nat} {w w' : Bool} (hg : F t = .p (.bool w')) (hw : (w' == w) = false) (h : aops P m os (id + 1) (updO F dst (.tup [])) S K) : aops P m (⟨dst, op, some (t, w)⟩ :: os) id F S K := by
  simp only [aops, step, wantedA, hg, hw] at h ⊢
  simpa using h

theorem q_off_tup {op : AOp} {t : Nat} {w : Bool} (hg : F t = .tup []) (h : aops P m os (id + 1) (updO F dst (.tup [])) S K) : aops P m (⟨dst, op, some (t, w)⟩ :: os) id F S K := by
  simp only [aops, step, wantedA, hg] at h ⊢
  simpa using h

theorem q_act {op : AOp} (h : act P m op (evalO F) S id (fun v S' => aops P m os (id + 1) (updO F dst v) S' K)) : aops P m (⟨dst, op, none⟩ :: os) id F S K := by
  simp only [aops, step, wantedA]; simpa using h

theorem q_mov {v : AV} (hx : evalO F x = v) (h : aops P m os (id + 1) (upd F d v) S K) : aops P m (⟨some d, .mov x, none⟩ :: os) id F S K := by
  subst hx; exact q_act h
theorem q_mov_p {v : PV} (hx : evalO F x = .p v) (h : aops P m os (id + 1) (upd F d (.p v)) S K) : aops P m (⟨some d, .mov x, none⟩ :: os) id F S K := q_mov hx h
theorem q_mov_sl {b : Bool} {xs : List (List PV)} {t : Tok} (hx : evalO F x = .sl b xs t) (h : aops P m os (id + 1) (upd F d (.sl b xs t)) S K) : aops P m (⟨some d, .mov x, none⟩ :: os) id F S K := q_mov hx h
theorem q_mov_agg {v : List AV} (hx : evalO F x = .agg v) (h : aops P m os (id + 1) (upd F d (.agg v)) S K) : aops P m (⟨some d, .mov x, none⟩ :: os) id F S K := q_mov hx h
theorem q_mov_ptr {k o : Nat} (hx : evalO F x = .ptr k o) (h : aops P m os (id + 1) (upd F d (.ptr k o)) S K) : aops P m (⟨some d, .mov x, none⟩ :: os) id F S K := q_mov hx h
theorem q_mov_ref {cs : List PV} {o : Nat} (hx : evalO F x = .ref cs o) (h : aops P m os (id + 1) (upd F d (.ref cs o)) S K) : aops P m (⟨some d, .mov x, none⟩ :: os) id F S K := q_mov hx h
theorem q_mov_fn {f : Nat} {cs : List AV} (hx : evalO F x = .fn f cs) (h : aops P m os (id + 1) (upd F d (.fn f cs)) S K) : aops P m (⟨some d, .mov x, none⟩ :: os) id F S K := q_mov hx h
theorem q_mov_nilptr (hx : evalO F x = .nilptr) (h : aops P m os (id + 1) (upd F d .nilptr) S K) : aops P m (⟨some d, .mov x, none⟩ :: os) id F S K := q_mov hx h
theorem q_mov_nilmap (hx : evalO F x = .nilmap) (h : aops P m os (id + 1) (upd F d .nilmap) S K) : aops P m (⟨some d, .mov x, none⟩ :: os) id F S K := q_mov hx h
theorem q_mov_map {k : Nat} (hx : evalO F x = .map k) (h : aops P m os (id + 1) (upd F d (.map k)) S K) : aops P m (⟨some d, .mov x, none⟩ :: os) id F S K := q_mov hx h

theorem q_pick_t {a b : Opd} (hc : evalO F c = .p (.bool true)) (h : aops P m (⟨some d, .mov a, none⟩ :: os) id F S K) : aops P m (⟨some d, .pick c a b, none⟩ :: os) id F S K := by
  refine q_act ?_; simp only [act, hc]; simpa [aops, step, wantedA, act] using h
theorem q_pick_f {a b : Opd} (hc : evalO F c = .p (.bool false)) (h : aops P m (⟨some d, .mov b, none⟩ :: os) id F S K) : aops P m (⟨some d, .pick c a b, none⟩ :: os) id F S K := by
  refine q_act ?_; simp only [act, hc]; simpa [aops, step, wantedA, act] using h

theorem q_alloc {z : List AV} (h : ∀ k, k = id → aops P m os (id + 1) (upd F d (.ptr k 0)) (ST S0 n ((k, .cells z) :: H)) K) : aops P m (⟨some d, .alloc z, none⟩ :: os) id F (ST S0 n H) K :=
  q_act (h id rfl)
theorem q_box {cs : List AV} (hx : (evalO F x).cells = some cs) (h : ∀ k, k = id → aops P m os (id + 1) (upd F d (.ptr k 0)) (ST S0 n ((k, .cells cs) :: H)) K) : aops P m (⟨some d, .box x, none⟩ :: os) id F (ST S0 n H) K := by
  refine q_act ?_; simp only [act, hx]; exact h id rfl
theorem q_box_agg {cs : List AV} (hx : evalO F x = .agg cs) (h : ∀ k, k = id → aops P m os (id + 1) (upd F d (.ptr k 0)) (ST S0 n ((k, .cells cs) :: H)) K) : aops P m (⟨some d, .box x, none⟩ :: os) id F (ST S0 n H) K := q_box (by rw [hx]; rfl) h
theorem q_box_p {c : PV} (hx : evalO F x = .p c) (h : ∀ k, k = id → aops P m os (id + 1) (upd F d (.ptr k 0)) (ST S0 n ((k, .cells [.p c]) :: H)) K) : aops P m (⟨some d, .box x, none⟩ :: os) id F (ST S0 n H) K := q_box (by rw [hx]; rfl) h
theorem q_box_sl {b : Bool} {xs : List (List PV)} {t : Tok} (hx : evalO F x = .sl b xs t) (h : ∀ k, k = id → aops P m os (id + 1) (upd F d (.ptr k 0)) (ST S0 n ((k, .cells [.sl b xs t]) :: H)) K) : aops P m (⟨some d, .box x, none⟩ :: os) id F (ST S0 n H) K := q_box (by rw [hx]; rfl) h
theorem q_box_fn {f : Nat} {cs : List AV} (hx : evalO F x = .fn f cs) (h : ∀ k, k = id → aops P m os (id + 1) (upd F d (.ptr k 0)) (ST S0 n ((k, .cells [.fn f cs]) :: H)) K) : aops P m (⟨some d, .box x, none⟩ :: os) id F (ST S0 n H) K := q_box (by rw [hx]; rfl) h

theorem fill_nil {z : List AV} : fillA z (([] : List (Nat × Nat × Opd)).map fun q => (q.1, q.2.1, evalO F q.2.2)) = some z := rfl
theorem fill_one {z z' cs : List AV} {off : Nat} {v : AV} {ps : List (Nat × Nat × Opd)} (hx : evalO F x = v) (hv : v.cells = some [v]) (hl : off + 1 ≤ z.length) (hz : z.take off ++ [v] ++ z.drop (off + 1) = z') (h : fillA z' (ps.map fun q => (q.1, q.2.1, evalO F q.2.2)) = some cs) :
    fillA z (((off, 1, x) :: ps).map fun q => (q.1, q.2.1, evalO F q.2.2)) = some cs := by
  subst hz
  simp only [List.map_cons, fillA, hx, hv]
  rw [if_pos ⟨rfl, hl⟩]; exact h
theorem fill_p {z z' cs : List AV} {off : Nat} {c : PV} {ps : List (Nat × Nat × Opd)} (hx : evalO F x = .p c) (hl : off + 1 ≤ z.length) (hz : z.take off ++ [.p c] ++ z.drop (off + 1) = z') (h : fillA z' (ps.map fun q => (q.1, q.2.1, evalO F q.2.2)) = some cs) :
    fillA z (((off, 1, x) :: ps).map fun q => (q.1, q.2.1, evalO F q.2.2)) = some cs := fill_one hx rfl hl hz h
theorem fill_sl {z z' cs : List AV} {off : Nat} {b : Bool} {xs : List (List PV)} {t : Tok} {ps : List (Nat × Nat × Opd)} (hx : evalO F x = .sl b xs t) (hl : off + 1 ≤ z.length) (hz : z.take off ++ [.sl b xs t] ++ z.drop (off + 1) = z') (h : fillA z' (ps.map fun q => (q.1, q.2.1, evalO F q.2.2)) = some cs) :
    fillA z (((off, 1, x) :: ps).map fun q => (q.1, q.2.1, evalO F q.2.2)) = some cs := fill_one hx rfl hl hz h
theorem fill_fn {z z' cs : List AV} {off : Nat} {f : Nat} {ds : List AV} {ps : List (Nat × Nat × Opd)} (hx : evalO F x = .fn f ds) (hl : off + 1 ≤ z.length) (hz : z.take off ++ [.fn f ds] ++ z.drop (off + 1) = z') (h : fillA z' (ps.map fun q => (q.1, q.2.1, evalO F q.2.2)) = some cs) :
    fillA z (((off, 1, x) :: ps).map fun q => (q.1, q.2.1, evalO F q.2.2)) = some cs := fill_one hx rfl hl hz h
theorem fill_ptr {z z' cs : List AV} {off k o : Nat} {ps : List (Nat × Nat × Opd)} (hx : evalO F x = .ptr k o) (hl : off + 1 ≤ z.length) (hz : z.take off ++ [.ptr k o] ++ z.drop (off + 1) = z') (h : fillA z' (ps.map fun q => (q.1, q.2.1, evalO F q.2.2)) = some cs) :
    fillA z (((off, 1, x) :: ps).map fun q => (q.1, q.2.1, evalO F q.2.2)) = some cs := fill_one hx rfl hl hz h
theorem fill_agg {z z' cs ds : List AV} {off size : Nat} {ps : List (Nat × Nat × Opd)} (hx : evalO F x = .agg ds) (hs : ds.length = size) (hl : off + size ≤ z.length) (hz : z.take off ++ ds ++ z.drop (off + size) = z') (h : fillA z' (ps.map fun q => (q.1, q.2.1, evalO F q.2.2)) = some cs) :
    fillA z (((off, size, x) :: ps).map fun q => (q.1, q.2.1, evalO F q.2.2)) = some cs := by
  subst hz
  simp only [List.map_cons, fillA, hx, AV.cells]
  rw [if_pos ⟨hs, hl⟩]; exact h
theorem q_build {z cs : List AV} {ps : List (Nat × Nat × Opd)} (hx : fillA z (ps.map fun q => (q.1, q.2.1, evalO F q.2.2)) = some cs) (h : aops P m os (id + 1) (upd F d (.agg cs)) S K) : aops P m (⟨some d, .build z ps, none⟩ :: os) id F S K := by
  refine q_act ?_; simp only [act, hx]; exact h
theorem q_bslice {sz len : Nat} {z cs : List AV} {l : List PV} {ps : List (Nat × Nat × Opd)} {xs : List (List PV)} (hx : fillA (List.replicate len z).flatten (ps.map fun q => (q.1, q.2.1, evalO F q.2.2)) = some cs) (hl : toPVs cs = some l) (hs : chunk sz len l = xs)
    (h : aops P m os (id + 1) (upd F d (.sl false xs .full)) S K) : aops P m (⟨some d, .bslice sz z len ps, none⟩ :: os) id F S K := by
  subst hs; refine q_act ?_; simp only [act, hx, hl]; exact h

theorem q_load1 {k o : Nat} {cs : List AV} {v : AV} (hx : evalO F x = .ptr k o) (hk : getB S0.H H k = some (.cells cs)) (hc : cs[o]? = some v) (h : aops P m os (id + 1) (upd F d v) (ST S0 n H) K) : aops P m (⟨some d, .load1 x, none⟩ :: os) id F (ST S0 n H) K := by
  refine q_act ?_; simp only [act, hx, show (ST S0 n H).H k = _ from hk, hc]; exact h
theorem q_load1_ref {cs : List PV} {o : Nat} {v : PV} (hx : evalO F x = .ref cs o) (hc : cs[o]? = some v) (h : aops P m os (id + 1) (upd F d (.p v)) S K) : aops P m (⟨some d, .load1 x, none⟩ :: os) id F S K := by
  refine q_act ?_; simp only [act, hx, hc]; exact h
theorem q_loadA {k o j : Nat} {cs ds : List AV} (hx : evalO F x = .ptr k o) (hk : getB S0.H H k = some (.cells cs)) (hl : o + j ≤ cs.length) (hd : (cs.drop o).take j = ds) (h : aops P m os (id + 1) (upd F d (.agg ds)) (ST S0 n H) K) :
    aops P m (⟨some d, .loadA j x, none⟩ :: os) id F (ST S0 n H) K := by
  subst hd; refine q_act ?_; simp only [act, hx, show (ST S0 n H).H k = _ from hk]; exact ⟨hl, h⟩
theorem q_loadA_ref {o j : Nat} {cs : List PV} {ds : List AV} (hx : evalO F x = .ref cs o) (hl : o + j ≤ cs.length) (hd : ((cs.drop o).take j).map .p = ds) (h : aops P m os (id + 1) (upd F d (.agg ds)) S K) :
    aops P m (⟨some d, .loadA j x, none⟩ :: os) id F S K := by
  subst hd; refine q_act ?_; simp only [act, hx]; exact ⟨hl, h⟩
theorem q_store {k o j : Nat} {cs ds es : List AV} (hx : evalO F x = .ptr k o) (hk : getB S0.H H k = some (.cells cs)) (hv : (evalO F y).cells = some ds) (hj : ds.length = j) (hl : o + j ≤ cs.length) (he : cs.take o ++ ds ++ cs.drop (o + j) = es)
    (h : aops P m os (id + 1) (updO F dst (.tup [])) (ST S0 n ((k, .cells es) :: H)) K) : aops P m (⟨dst, .store j x y, none⟩ :: os) id F (ST S0 n H) K := by
  subst he; refine q_act ?_; simp only [act, hx, show (ST S0 n H).H k = _ from hk, hv]; exact ⟨hj, hl, h⟩

theorem q_store_p {k o : Nat} {cs es : List AV} {c : PV} (hx : evalO F x = .ptr k o) (hk : getB S0.H H k = some (.cells cs)) (hv : evalO F y = .p c) (hl : o + 1 ≤ cs.length) (he : cs.take o ++ [.p c] ++ cs.drop (o + 1) = es)
    (h : aops P m os (id + 1) (updO F dst (.tup [])) (ST S0 n ((k, .cells es) :: H)) K) : aops P m (⟨dst, .store 1 x y, none⟩ :: os) id F (ST S0 n H) K := q_store hx hk (ds := [.p c]) (by rw [hv]; rfl) rfl hl he h
theorem q_store_fn {k o f : Nat} {cs es ds : List AV} (hx : evalO F x = .ptr k o) (hk : getB S0.H H k = some (.cells cs)) (hv : evalO F y = .fn f ds) (hl : o + 1 ≤ cs.length) (he : cs.take o ++ [.fn f ds] ++ cs.drop (o + 1) = es)
    (h : aops P m os (id + 1) (updO F dst (.tup [])) (ST S0 n ((k, .cells es) :: H)) K) : aops P m (⟨dst, .store 1 x y, none⟩ :: os) id F (ST S0 n H) K := q_store hx hk (ds := [.fn f ds]) (by rw [hv]; rfl) rfl hl he h
theorem q_store_sl {k o : Nat} {cs es : List AV} {b : Bool} {xs : List (List PV)} {t : Tok} (hx : evalO F x = .ptr k o) (hk : getB S0.H H k = some (.cells cs)) (hv : evalO F y = .sl b xs t) (hl : o + 1 ≤ cs.length) (he : cs.take o ++ [.sl b xs t] ++ cs.drop (o + 1) = es)
    (h : aops P m os (id + 1) (updO F dst (.tup [])) (ST S0 n ((k, .cells es) :: H)) K) : aops P m (⟨dst, .store 1 x y, none⟩ :: os) id F (ST S0 n H) K := q_store hx hk (ds := [.sl b xs t]) (by rw [hv]; rfl) rfl hl he h
theorem q_store_agg {k o j : Nat} {cs ds es : List AV} (hx : evalO F x = .ptr k o) (hk : getB S0.H H k = some (.cells cs)) (hv : evalO F y = .agg ds) (hj : ds.length = j) (hl : o + j ≤ cs.length) (he : cs.take o ++ ds ++ cs.drop (o + j) = es)
    (h : aops P m os (id + 1) (updO F dst (.tup [])) (ST S0 n ((k, .cells es) :: H)) K) : aops P m (⟨dst, .store j x y, none⟩ :: os) id F (ST S0 n H) K := q_store hx hk (by rw [hv]; rfl) hj hl he h

theorem mapE_nil : ([] : List Opd).map (evalO F) = [] := rfl
theorem mapE_p {xs : List Opd} {vs : List AV} {c : PV} (hx : evalO F x = .p c) (hs : xs.map (evalO F) = vs) : (x :: xs).map (evalO F) = .p c :: vs := by simp [hx, hs]
theorem mapE_ptr {xs : List Opd} {vs : List AV} {k o : Nat} (hx : evalO F x = .ptr k o) (hs : xs.map (evalO F) = vs) : (x :: xs).map (evalO F) = .ptr k o :: vs := by simp [hx, hs]
theorem mapE_ref {xs : List Opd} {vs : List AV} {cs : List PV} {o : Nat} (hx : evalO F x = .ref cs o) (hs : xs.map (evalO F) = vs) : (x :: xs).map (evalO F) = .ref cs o :: vs := by simp [hx, hs]
theorem mapE_agg {xs : List Opd} {vs : List AV} {cs : List AV} (hx : evalO F x = .agg cs) (hs : xs.map (evalO F) = vs) : (x :: xs).map (evalO F) = .agg cs :: vs := by simp [hx, hs]
theorem mapE_fn {xs : List Opd} {vs : List AV} {f : Nat} {cs : List AV} (hx : evalO F x = .fn f cs) (hs : xs.map (evalO F) = vs) : (x :: xs).map (evalO F) = .fn f cs :: vs := by simp [hx, hs]
theorem mapE_sl {xs : List Opd} {vs : List AV} {b : Bool} {ys : List (List PV)} {t : Tok} (hx : evalO F x = .sl b ys t) (hs : xs.map (evalO F) = vs) : (x :: xs).map (evalO F) = .sl b ys t :: vs := by simp [hx, hs]

theorem q_fadr {off k o p : Nat} (hx : evalO F x = .ptr k o) (hp : o + off = p) (h : aops P m os (id + 1) (upd F d (.ptr k p)) S K) : aops P m (⟨some d, .fadr off x, none⟩ :: os) id F S K := by
  subst hp; refine q_act ?_; simp only [act, hx]; exact h
theorem q_fadr_ref {off o p : Nat} {cs : List PV} (hx : evalO F x = .ref cs o) (hp : o + off = p) (h : aops P m os (id + 1) (upd F d (.ref cs p)) S K) : aops P m (⟨some d, .fadr off x, none⟩ :: os) id F S K := by
  subst hp; refine q_act ?_; simp only [act, hx]; exact h
theorem q_iadrA {len sz k o p : Nat} {kd : IntKind} {i : Int} (hx : evalO F x = .ptr k o) (hi : evalO F y = .p (.int kd i)) (h0 : 0 ≤ i) (h1 : i < len) (hp : o + i.toNat * sz = p) (h : aops P m os (id + 1) (upd F d (.ptr k p)) S K) : aops P m (⟨some d, .iadrA len sz x y, none⟩ :: os) id F S K := by
  subst hp; refine q_act ?_; simp only [act, hi, hx]; exact ⟨h0, h1, h⟩
theorem q_iadrA_ref {len sz o p : Nat} {cs : List PV} {kd : IntKind} {i : Int} (hx : evalO F x = .ref cs o) (hi : evalO F y = .p (.int kd i)) (h0 : 0 ≤ i) (h1 : i < len) (hp : o + i.toNat * sz = p) (h : aops P m os (id + 1) (upd F d (.ref cs p)) S K) : aops P m (⟨some d, .iadrA len sz x y, none⟩ :: os) id F S K := by
  subst hp; refine q_act ?_; simp only [act, hi, hx]; exact ⟨h0, h1, h⟩
theorem q_iadrS {sz : Nat} {nl : Bool} {xs : List (List PV)} {t : Tok} {kd : IntKind} {i : Int} {e : List PV} (hx : (evalO F x).asSl = some (nl, xs, t)) (hi : evalO F y = .p (.int kd i)) (h0 : 0 ≤ i) (he : xs[i.toNat]? = some e) (hs : e.length = sz)
    (h : aops P m os (id + 1) (upd F d (.ref e 0)) S K) : aops P m (⟨some d, .iadrS sz x y, none⟩ :: os) id F S K := by
  refine q_act ?_; simp only [act, hi, hx]; exact ⟨h0, by simp only [he]; exact ⟨hs, h⟩⟩

theorem q_arith {op : BinOp} {k : IntKind} {a b : Int} {v : AV} (hx : evalO F x = .p (.int k a)) (hy : evalO F y = .p (.int k b)) (hv : arithA op k a b = some v) (h : aops P m os (id + 1) (upd F d v) S K) : aops P m (⟨some d, .arith op x y, none⟩ :: os) id F S K := by
  refine q_act ?_; simp only [act, hx, hy]; exact ⟨trivial, by simp only [hv]; exact h⟩

theorem q_add {k : IntKind} {a b r : Int} (hx : evalO F x = .p (.int k a)) (hy : evalO F y = .p (.int k b)) (hr : k.wrap (a + b) = r) (h : aops P m os (id + 1) (upd F d (.p (.int k r))) S K) : aops P m (⟨some d, .arith .add x y, none⟩ :: os) id F S K := by
  subst hr; exact q_arith hx hy rfl h
theorem q_sub {k : IntKind} {a b r : Int} (hx : evalO F x = .p (.int k a)) (hy : evalO F y = .p (.int k b)) (hr : k.wrap (a - b) = r) (h : aops P m os (id + 1) (upd F d (.p (.int k r))) S K) : aops P m (⟨some d, .arith .sub x y, none⟩ :: os) id F S K := by
  subst hr; exact q_arith hx hy rfl h
theorem q_mul {k : IntKind} {a b r : Int} (hx : evalO F x = .p (.int k a)) (hy : evalO F y = .p (.int k b)) (hr : k.wrap (a * b) = r) (h : aops P m os (id + 1) (upd F d (.p (.int k r))) S K) : aops P m (⟨some d, .arith .mul x y, none⟩ :: os) id F S K := by
  subst hr; exact q_arith hx hy rfl h
theorem q_quo {k : IntKind} {a b r : Int} (hx : evalO F x = .p (.int k a)) (hy : evalO F y = .p (.int k b)) (hb : b ≠ 0) (hr : k.wrap (a.tdiv b) = r) (h : aops P m os (id + 1) (upd F d (.p (.int k r))) S K) : aops P m (⟨some d, .arith .quo x y, none⟩ :: os) id F S K := by
  subst hr; exact q_arith hx hy (by simp [arithA, hb]) h
theorem q_rem {k : IntKind} {a b r : Int} (hx : evalO F x = .p (.int k a)) (hy : evalO F y = .p (.int k b)) (hb : b ≠ 0) (hr : a.tmod b = r) (h : aops P m os (id + 1) (upd F d (.p (.int k r))) S K) : aops P m (⟨some d, .arith .rem x y, none⟩ :: os) id F S K := by
  subst hr; exact q_arith hx hy (by simp [arithA, hb]) h
theorem q_neg {k : IntKind} {a r : Int} (hx : evalO F x = .p (.int k a)) (hr : k.wrap (0 - a) = r) (h : aops P m os (id + 1) (upd F d (.p (.int k r))) S K) : aops P m (⟨some d, .neg x, none⟩ :: os) id F S K := by
  subst hr; refine q_act ?_; simp only [act, hx]; exact h

-- comparisons: gone on with in two ways
theorem q_lss {k : IntKind} {a b : Int} (hx : evalO F x = .p (.int k a)) (hy : evalO F y = .p (.int k b)) (h1 : a < b → aops P m os (id + 1) (upd F d (.p (.bool true))) S K) (h2 : b ≤ a → aops P m os (id + 1) (upd F d (.p (.bool false))) S K) : aops P m (⟨some d, .arith .lss x y, none⟩ :: os) id F S K := by
  refine q_arith hx hy rfl ?_
  by_cases h : a < b
  · simpa [h] using h1 h
  · simpa [h] using h2 (by omega)
theorem q_leq {k : IntKind} {a b : Int} (hx : evalO F x = .p (.int k a)) (hy : evalO F y = .p (.int k b)) (h1 : a ≤ b → aops P m os (id + 1) (upd F d (.p (.bool true))) S K) (h2 : b < a → aops P m os (id + 1) (upd F d (.p (.bool false))) S K) : aops P m (⟨some d, .arith .leq x y, none⟩ :: os) id F S K := by
  refine q_arith hx hy rfl ?_
  by_cases h : a ≤ b
  · simpa [h] using h1 h
  · simpa [h] using h2 (by omega)
theorem q_gtr {k : IntKind} {a b : Int} (hx : evalO F x = .p (.int k a)) (hy : evalO F y = .p (.int k b)) (h1 : b < a → aops P m os (id + 1) (upd F d (.p (.bool true))) S K) (h2 : a ≤ b → aops P m os (id + 1) (upd F d (.p (.bool false))) S K) : aops P m (⟨some d, .arith .gtr x y, none⟩ :: os) id F S K := by
  refine q_arith hx hy rfl ?_
  by_cases h : b < a
  · simpa [h] using h1 h
  · simpa [h] using h2 (by omega)
theorem q_geq {k : IntKind} {a b : Int} (hx : evalO F x = .p (.int k a)) (hy : evalO F y = .p (.int k b)) (h1 : b ≤ a → aops P m os (id + 1) (upd F d (.p (.bool true))) S K) (h2 : a < b → aops P m os (id + 1) (upd F d (.p (.bool false))) S K) : aops P m (⟨some d, .arith .geq x y, none⟩ :: os) id F S K := by
  refine q_arith hx hy rfl ?_
  by_cases h : b ≤ a
  · simpa [h] using h1 h
  · simpa [h] using h2 (by omega)
theorem q_eql {k : IntKind} {a b : Int} (hx : evalO F x = .p (.int k a)) (hy : evalO F y = .p (.int k b)) (h1 : a = b → aops P m os (id + 1) (upd F d (.p (.bool true))) S K) (h2 : a ≠ b → aops P m os (id + 1) (upd F d (.p (.bool false))) S K) : aops P m (⟨some d, .arith .eql x y, none⟩ :: os) id F S K := by
  refine q_arith hx hy rfl ?_
  by_cases h : a = b
  · simpa [h] using h1 h
  · have e : (a == b) = false := by simpa using h
    rw [e]; exact h2 h
theorem q_neq {k : IntKind} {a b : Int} (hx : evalO F x = .p (.int k a)) (hy : evalO F y = .p (.int k b)) (h1 : a ≠ b → aops P m os (id + 1) (upd F d (.p (.bool true))) S K) (h2 : a = b → aops P m os (id + 1) (upd F d (.p (.bool false))) S K) : aops P m (⟨some d, .arith .neq x y, none⟩ :: os) id F S K := by
  refine q_arith hx hy rfl ?_
  by_cases h : a = b
  · have e : (a != b) = false := by simpa using h
    rw [e]; exact h2 h
  · have e : (a != b) = true := by simpa using h
    rw [e]; exact h1 h

theorem q_not {b c : Bool} (hx : evalO F x = .p (.bool b)) (hc : (!b) = c) (h : aops P m os (id + 1) (upd F d (.p (.bool c))) S K) : aops P m (⟨some d, .not x, none⟩ :: os) id F S K := by
  subst hc; refine q_act ?_; simp only [act, hx]; exact h
theorem q_eqB {a b c ng : Bool} (hx : evalO F x = .p (.bool a)) (hy : evalO F y = .p (.bool b)) (hc : (if ng then !(a == b) else a == b) = c) (h : aops P m os (id + 1) (upd F d (.p (.bool c))) S K) : aops P m (⟨some d, .eqB ng x y, none⟩ :: os) id F S K := by
  subst hc; refine q_act ?_; simp only [act, hx, hy]; exact h
theorem q_eqA {L : List (Option IntKind)} {ng b : Bool} {cs ds : List AV} (hx : evalO F x = .agg cs) (hy : evalO F y = .agg ds) (hb : eqCells L cs ds = some b) (h1 : b = true → aops P m os (id + 1) (upd F d (.p (.bool (!ng)))) S K) (h2 : b = false → aops P m os (id + 1) (upd F d (.p (.bool ng))) S K) :
    aops P m (⟨some d, .eqA L ng x y, none⟩ :: os) id F S K := by
  refine q_act ?_; simp only [act, hx, hy, hb]
  cases b
  · have := h2 rfl; cases ng <;> exact this
  · have := h1 rfl; cases ng <;> exact this
theorem q_eqNil {kd : Nat} {ng b c : Bool} (hb : eqNilA kd (evalO F x) (evalO F y) = some b) (hc : (if ng then !b else b) = c) (h : aops P m os (id + 1) (upd F d (.p (.bool c))) S K) : aops P m (⟨some d, .eqNil kd ng x y, none⟩ :: os) id F S K := by
  subst hc; refine q_act ?_; simp only [act, hb]; exact h
theorem q_ext {i : Nat} {vs : List AV} {v : AV} (hx : evalO F x = .tup vs) (hv : vs[i]? = some v) (h : aops P m os (id + 1) (upd F d v) S K) : aops P m (⟨some d, .ext i x, none⟩ :: os) id F S K := by
  refine q_act ?_; simp only [act, hx, hv]; exact h
theorem q_mkfn {f : Nat} {caps : List Opd} {cs : List AV} (hc : caps.map (evalO F) = cs) (h : aops P m os (id + 1) (upd F d (.fn f cs)) S K) : aops P m (⟨some d, .mkfn f caps, none⟩ :: os) id F S K := by
  subst hc; exact q_act h
theorem q_lenS {nl : Bool} {xs : List (List PV)} {t : Tok} (hx : (evalO F x).asSl = some (nl, xs, t)) (h : aops P m os (id + 1) (upd F d (.p (.int .i64 xs.length))) S K) : aops P m (⟨some d, .lenS x, none⟩ :: os) id F S K := by
  refine q_act ?_; simp only [act, hx]; exact h
theorem q_lenS_map {α : Type} {pv : α → List PV} {nl : Bool} {l : List α} {t : Tok} (hx : (evalO F x).asSl = some (nl, l.map pv, t)) (h : aops P m os (id + 1) (upd F d (.p (.int .i64 l.length))) S K) : aops P m (⟨some d, .lenS x, none⟩ :: os) id F S K :=
  q_lenS hx (by rw [List.length_map]; exact h)
theorem q_slice {sz : Nat} {nl : Bool} {xs ys : List (List PV)} {t : Tok} {lo hi : Option Opd} {l h : Int} (hx : (evalO F x).asSl = some (nl, xs, t)) (hw : ∀ e ∈ xs, e.length = sz) (hlo : boundA 0 (lo.map (evalO F)) = some l) (hhi : boundA xs.length (hi.map (evalO F)) = some h)
    (h0 : 0 ≤ l) (h1 : l ≤ h) (h2 : h ≤ xs.length) (hy : (xs.take h.toNat).drop l.toNat = ys) (hK : aops P m os (id + 1) (upd F d (.sl nl ys (cutTok t hi.isNone))) S K) : aops P m (⟨some d, .slice sz x lo hi none, none⟩ :: os) id F S K := by
  subst hy; refine q_act ?_; simp only [act, hx]; exact ⟨hw, by simp only [hlo, hhi]; exact ⟨h0, h1, h2, hK⟩⟩
theorem q_slice3 {sz : Nat} {nl : Bool} {xs ys : List (List PV)} {t : Tok} {lo : Option Opd} {hi mx : Opd} {l h : Int} (hx : (evalO F x).asSl = some (nl, xs, t)) (hw : ∀ e ∈ xs, e.length = sz) (hlo : boundA 0 (lo.map (evalO F)) = some l) (hhi : boundA xs.length (some (evalO F hi)) = some h)
    (h0 : 0 ≤ l) (h1 : l ≤ h) (h2 : h ≤ xs.length) (hm : boundA 0 (some (evalO F mx)) = some h) (hy : (xs.take h.toNat).drop l.toNat = ys) (hK : aops P m os (id + 1) (upd F d (.sl nl ys .full)) S K) : aops P m (⟨some d, .slice sz x lo (some hi) (some mx), none⟩ :: os) id F S K := by
  subst hy; refine q_act ?_; simp only [act, hx]; exact ⟨hw, by simp only [hlo, Option.map_some, hhi]; exact ⟨h0, h1, h2, rfl, hm, hK⟩⟩
theorem q_append_new {sz by_ : Nat} {n1 n2 : Bool} {xs ys : List (List PV)} {t2 : Tok} (hx : (evalO F x).asSl = some (n1, xs, .full)) (hy : (evalO F y).asSl = some (n2, ys, t2)) (hwx : ∀ e ∈ xs, e.length = sz) (hwy : ∀ e ∈ ys, e.length = sz)
    (hb : (xs.length + ys.length) * by_ ≤ 140737488355328) (hb2 : xs.length + ys.length ≤ 9223372036854775807) (h : ∀ k, k = id → aops P m os (id + 1) (upd F d (.sl (n1 && ys.isEmpty) (xs ++ ys) (.vec k))) (ST S0 n ((k, .fr (xs.length + ys.length) sz) :: H)) K) :
    aops P m (⟨some d, .append sz by_ x y, none⟩ :: os) id F (ST S0 n H) K := by
  refine q_act ?_; simp only [act, hx, hy]; exact ⟨hwx, hwy, hb, hb2, h id rfl⟩
theorem q_append_vec {sz by_ k : Nat} {n1 n2 : Bool} {xs ys : List (List PV)} {t2 : Tok} (hx : (evalO F x).asSl = some (n1, xs, .vec k)) (hy : (evalO F y).asSl = some (n2, ys, t2)) (hwx : ∀ e ∈ xs, e.length = sz) (hwy : ∀ e ∈ ys, e.length = sz)
    (hb : (xs.length + ys.length) * by_ ≤ 140737488355328) (hb2 : xs.length + ys.length ≤ 9223372036854775807) (hk : getB S0.H H k = some (.fr xs.length sz)) (h : aops P m os (id + 1) (upd F d (.sl (n1 && ys.isEmpty) (xs ++ ys) (.vec k))) (ST S0 n ((k, .fr (xs.length + ys.length) sz) :: H)) K) :
    aops P m (⟨some d, .append sz by_ x y, none⟩ :: os) id F (ST S0 n H) K := by
  refine q_act ?_; simp only [act, hx, hy]; exact ⟨hwx, hwy, hb, hb2, hk, h⟩
theorem q_minmax {mx : Bool} {xs : List Opd} {v : AV} (hx : minmaxA mx (evalO F x) (xs.map (evalO F)) = some v) (h : aops P m os (id + 1) (upd F d v) S K) : aops P m (⟨some d, .minmax mx x xs, none⟩ :: os) id F S K := by
  refine q_act ?_; simp only [act, hx]; exact h

theorem q_call {f : Nat} {args : List Opd} {r : AV} (hs : ∀ S, ASpec P f (args.map (evalO F)) S r S) (h : aops P m os (id + 1) (updO F dst r) S K) : aops P m (⟨dst, .call f args, none⟩ :: os) id F S K := by
  refine q_act ?_
  cases m
  · exact ⟨r, S, hs S, rfl, h⟩
  · exact ⟨r, hs S, h⟩
  · exact ⟨r, hs, h⟩
theorem q_call_b {f : Nat} {args : List Opd} {b : Bool} (hs : ∀ S, ASpec P f (args.map (evalO F)) S (.p (.bool b)) S) (h1 : b = true → aops P m os (id + 1) (updO F dst (.p (.bool true))) S K) (h2 : b = false → aops P m os (id + 1) (updO F dst (.p (.bool false))) S K) : aops P m (⟨dst, .call f args, none⟩ :: os) id F S K := by
  refine q_call hs ?_
  cases b
  · exact h2 rfl
  · exact h1 rfl
theorem q_call_free {f : Nat} {args : List Opd} {r : AV} {S' : St} (hs : ASpec P f (args.map (evalO F)) S r S') (hn : S'.n = S.n) (h : aops P .free os (id + 1) (updO F dst r) S' K) : aops P .free (⟨dst, .call f args, none⟩ :: os) id F S K := by
  refine q_act ?_; exact ⟨r, S', hs, hn, h⟩
theorem q_call_same {f : Nat} {args : List Opd} {r : AV} (hm : m ≠ .univ) (hs : ASpec P f (args.map (evalO F)) S r S) (h : aops P m os (id + 1) (updO F dst r) S K) : aops P m (⟨dst, .call f args, none⟩ :: os) id F S K := by
  refine q_act ?_
  cases m
  · exact ⟨r, S, hs, rfl, h⟩
  · exact ⟨r, hs, h⟩
  · exact absurd rfl hm
theorem q_callv {f : Nat} {args : List Opd} {caps : List AV} {r : AV} (hx : evalO F x = .fn f caps) (hc : callable P f = true) (hs : ∀ S, ASpec P f (args.map (evalO F) ++ caps) S r S) (h : aops P m os (id + 1) (updO F dst r) S K) : aops P m (⟨dst, .callv x args, none⟩ :: os) id F S K := by
  refine q_act ?_
  simp only [act, hx]
  refine ⟨hc, ?_⟩
  cases m
  · exact ⟨r, S, hs S, rfl, h⟩
  · exact ⟨r, hs S, h⟩
  · exact ⟨r, hs, h⟩
theorem q_callv_b {f : Nat} {args : List Opd} {caps : List AV} {b : Bool} (hx : evalO F x = .fn f caps) (hc : callable P f = true) (hs : ∀ S, ASpec P f (args.map (evalO F) ++ caps) S (.p (.bool b)) S) (h1 : b = true → aops P m os (id + 1) (updO F dst (.p (.bool true))) S K) (h2 : b = false → aops P m os (id + 1) (updO F dst (.p (.bool false))) S K) : aops P m (⟨dst, .callv x args, none⟩ :: os) id F S K := by
  refine q_callv hx hc hs ?_
  cases b
  · exact h2 rfl
  · exact h1 rfl
theorem q_callv_same {f : Nat} {args : List Opd} {caps : List AV} {r : AV} (hm : m ≠ .univ) (hx : evalO F x = .fn f caps) (hc : callable P f = true) (hs : ASpec P f (args.map (evalO F) ++ caps) S r S) (h : aops P m os (id + 1) (updO F dst r) S K) : aops P m (⟨dst, .callv x args, none⟩ :: os) id F S K := by
  refine q_act ?_
  simp only [act, hx]
  refine ⟨hc, ?_⟩
  cases m
  · exact ⟨r, S, hs, rfl, h⟩
  · exact ⟨r, hs, h⟩
  · exact absurd rfl hm

end

/-! ### Code -/

section
variable {P : Program} {S S0 : St} {F : Nat → AV} {n : Nat} {H : List (Nat × Blk)} {a b : ACode} {Q : Exit → (Nat → AV) → St → Prop}

theorem q_reg {ops : List AOper} (h : ∀ n', n' = n + ops.length → aops P .free ops n F (ST S0 n' H) (Q .normal)) : awp P S0 (.reg ops) F (ST S0 n H) Q := h _ rfl
theorem q_drawn {m : CMode} {seps : List (Nat × Nat)} {ops : List AOper} (h : ∀ n', n' = n + ops.length → aops P m ops n F (ST S0 n' H) (fun F' S' => sepAll F' seps ∧ Q .normal F' S')) : awp P S0 (.drawn m seps ops) F (ST S0 n H) Q := h _ rfl
/-- What comes behind the first of two. -/
def seqC (P : Program) (S0 : St) (b : ACode) (Q : Exit → (Nat → AV) → St → Prop) : Exit → (Nat → AV) → St → Prop := seqQ (fun F' S' => awp P S0 b F' S' Q) Q
theorem q_seq (h : awp P S0 a F S (seqC P S0 b Q)) : awp P S0 (.seq a b) F S Q := h
theorem q_cond_t {c : Opd} (hc : evalO F c = .p (.bool true)) (h : awp P S0 a F S Q) : awp P S0 (.cond c a b) F S Q := by simp only [awp, hc]; exact h
theorem q_cond_f {c : Opd} (hc : evalO F c = .p (.bool false)) (h : awp P S0 b F S Q) : awp P S0 (.cond c a b) F S Q := by simp only [awp, hc]; exact h
theorem q_block {id : Nat} (h : awp P S0 a F S (blockQ id Q)) : awp P S0 (.block id a) F S Q := h
theorem q_exit {id : Nat} (h : Q (.exit id) F S) : awp P S0 (.exit id) F S Q := h
theorem q_ret (h : Q .ret F S) : awp P S0 .ret F S Q := h
theorem q_skip (h : Q .normal F S) : awp P S0 .skip F S Q := h
theorem q_normal (h : awp P S0 b F S Q) : seqC P S0 b Q .normal F S := h
theorem q_seq_exit {id : Nat} (h : Q (.exit id) F S) : seqC P S0 b Q (.exit id) F S := h
theorem q_seq_ret (h : Q .ret F S) : seqC P S0 b Q .ret F S := h
theorem q_block_normal {id : Nat} (h : Q .normal F S) : blockQ id Q .normal F S := h
theorem q_block_ret {id : Nat} (h : Q .ret F S) : blockQ id Q .ret F S := h
theorem q_block_hit {id : Nat} (h : Q .normal F S) : blockQ id Q (.exit id) F S := by simp only [blockQ]; simpa using h
theorem q_block_miss {id id' : Nat} (hn : (id' == id) = false) (h : Q (.exit id') F S) : blockQ id Q (.exit id') F S := by
  simp only [blockQ]; rw [if_neg (by simpa using hn)]; exact h

/-- What a round must come to. -/
def loopQ {γ : Type} (S0 : St) (fr : γ → List (Nat × AV)) (st : γ → St) (ok : γ → Prop) (μ : γ → Nat) (g : γ) (Q : Exit → (Nat → AV) → St → Prop) : Exit → (Nat → AV) → St → Prop
  | .normal, F, S => ∃ g', ok g' ∧ μ g' < μ g ∧ Wk S0 F S (sp (fr g')) (st g')
  | e, F, S => Q e F S

theorem q_loop {γ : Type} (fr : γ → List (Nat × AV)) (st : γ → St) (ok : γ → Prop) (μ : γ → Nat) (g0 : γ) (h0 : ok g0) (hw : Wk S0 F S (sp (fr g0)) (st g0))
    (hb : ∀ g, ok g → awp P S0 b (sp (fr g)) (st g) (loopQ S0 fr st ok μ g Q)) : awp P S0 (.loop b) F S Q := by
  refine ⟨fun j F S => ∃ g, ok g ∧ μ g = j ∧ F = sp (fr g) ∧ S = st g, ⟨μ g0, _, _, hw, g0, h0, rfl, rfl, rfl⟩, ?_⟩
  rintro j F S ⟨g, hg, rfl, rfl, rfl⟩
  refine awp_mono (hb g hg) ?_
  intro e F S h
  cases e with
  | normal =>
    obtain ⟨g', h1, h2, h3⟩ := h
    exact ⟨μ g', _, _, h2, h3, g', h1, rfl, rfl, rfl⟩
  | exit id => exact h
  | goto l => exact h
  | ret => exact h
  | panic ch => exact h
  | outgrown => exact h

theorem q_loop_normal {γ : Type} {fr : γ → List (Nat × AV)} {st : γ → St} {ok : γ → Prop} {μ : γ → Nat} {g : γ} (g' : γ) (h0 : ok g') (hμ : μ g' < μ g) (hw : Wk S0 F S (sp (fr g')) (st g')) : loopQ S0 fr st ok μ g Q .normal F S := ⟨g', h0, hμ, hw⟩
theorem q_loop_exit {γ : Type} {fr : γ → List (Nat × AV)} {st : γ → St} {ok : γ → Prop} {μ : γ → Nat} {g : γ} {id : Nat} (h : Q (.exit id) F S) : loopQ S0 fr st ok μ g Q (.exit id) F S := h
theorem q_loop_ret {γ : Type} {fr : γ → List (Nat × AV)} {st : γ → St} {ok : γ → Prop} {μ : γ → Nat} {g : γ} (h : Q .ret F S) : loopQ S0 fr st ok μ g Q .ret F S := h

theorem q_fun {f : Nat} {same : List Nat} {af : AFunc} (hm : P.follows .mixedOrders = true) (hc : compFunc P same f = some af) {args : List AV} {nt : Nat} {res : List ARes} {code : ACode} (ha : af = ⟨nt, res, code⟩) (hlen : args.length ≤ nt) {S : St} {r : AV}
    (h : S.wf → AV.underL S.n args → awp P S code (fun t => args.getD t .junk) (ST S S.n []) (endQ S res r S)) : ASpec P f args S r S := by
  subst ha; exact aspec_of hm hc hlen rfl h

theorem q_end_ret {res : List ARes} {r : AV} {rs : List AV} (hwf : S0.wf) (hr : resAs F (ST S0 n H) res = some rs) (hv : wkV S0.n (pack rs) r) (hk : keysP S0.n H) (hn : S0.n ≤ n) : endQ S0 res r S0 .ret F (ST S0 n H) :=
  .inl ⟨⟨rs, hr, hv, wkS_ST (l' := []) hwf (Nat.le_refl _) hn hk trivial⟩⟩
theorem q_end_normal {res : List ARes} {r : AV} {rs : List AV} (hwf : S0.wf) (hr : resAs F (ST S0 n H) res = some rs) (hv : wkV S0.n (pack rs) r) (hk : keysP S0.n H) (hn : S0.n ≤ n) : endQ S0 res r S0 .normal F (ST S0 n H) :=
  .inl ⟨⟨rs, hr, hv, wkS_ST (l' := []) hwf (Nat.le_refl _) hn hk trivial⟩⟩

end
end Go.Cw
