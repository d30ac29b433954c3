/- EACH OPERATION IS SOUND: the simple ones. -/
import Derived.Test.YtinenepjloodcaaCwB
namespace Go.Cw

/-! ### Frames and operands -/

def evalO (F : Nat → AV) : Opd → AV
  | .t n => F n
  | .v a => a

def FRep (G : Gh) (w : World) (F : Nat → AV) (a : Act) : Prop := ∀ t, Rep G w (F t) (a.tmps.getD t undef)

theorem FRep.mono {G G' : Gh} {w w' : World} {F : Nat → AV} {a : Act} (h : FRep G w F a) (hle : Le G w G' w') : FRep G' w' F a := fun t => (h t).mono hle

theorem absCell_sound {v : Value} {x : AV} (h : absCell v = some x) (G : Gh) (w : World) : Rep G w x v ∧ v.oneCell' = true := by
  unfold absCell at h
  split at h <;> simp only [Option.some.injEq, reduceCtorEq] at h <;> subst h
  · exact ⟨.p (.bool _), rfl⟩
  · exact ⟨.p (.int _ _), rfl⟩
  · exact ⟨.p (.str _), rfl⟩
  · exact ⟨.sl .nil ⟨none, rfl⟩, rfl⟩
  · exact ⟨.nilptr, rfl⟩
  · exact ⟨.nilmap, rfl⟩
  · exact ⟨.nilfn, rfl⟩

theorem absCells_sound : ∀ {vs : List Value} {cs : List AV}, absCells vs = some cs → ∀ (G : Gh) (w : World), RepL G w cs vs ∧ ∀ v ∈ vs, v.oneCell' = true
  | [], cs, h, G, w => by
    simp only [absCells, Option.some.injEq] at h
    subst h
    exact ⟨RepL.nil G w, by simp⟩
  | v :: vs, cs, h, G, w => by
    simp only [absCells] at h
    split at h
    · rename_i c cs' h1 h2
      simp only [Option.some.injEq] at h
      subst h
      obtain ⟨i1, i2⟩ := absCells_sound h2 G w
      obtain ⟨j1, j2⟩ := absCell_sound h1 G w
      exact ⟨RepL.cons j1 i1, by simp [j2]; exact i2⟩
    · cases h

theorem absV_sound {v : Value} {x : AV} (h : absV v = some x) (G : Gh) (w : World) : Rep G w x v := by
  unfold absV at h
  split at h
  · rename_i cs
    simp only [Option.map_eq_some_iff] at h
    obtain ⟨ds, h1, rfl⟩ := h
    obtain ⟨i1, i2⟩ := absCells_sound h1 G w
    exact .agg (vs := cs.toList) i1.1 i1.2 i2
  · split at h
    · rename_i f a b hab
      simp only [Option.some.injEq] at h
      subst h
      simp only [Bool.and_eq_true, Array.isEmpty_iff] at hab
      obtain ⟨rfl, rfl⟩ := hab
      exact .fn (vs := []) rfl (by simp)
    · cases h
  · exact (absCell_sound h G w).1

theorem opd_sound {x : Operand} {y : Opd} (h : opd x = some y) {G : Gh} {w : World} {F : Nat → AV} {a : Act} (hF : FRep G w F a) : Rep G w (evalO F y) (a.eval x) := by
  cases x with
  | tmp t => simp only [opd, Option.some.injEq] at h; subst h; exact hF t
  | const v => simp only [opd, Option.map_eq_some_iff] at h; obtain ⟨z, h1, rfl⟩ := h; exact absV_sound h1 G w
  | global g => simp [opd] at h
  | func f => simp only [opd, Option.some.injEq] at h; subst h; exact .fn (vs := []) rfl (by simp)

theorem opds_sound : ∀ {xs : List Operand} {ys : List Opd}, opds xs = some ys → ∀ {G : Gh} {w : World} {F : Nat → AV} {a : Act}, FRep G w F a → RepL G w (ys.map (evalO F)) (xs.map a.eval)
  | [], ys, h, _, _, _, _, _ => by
    simp only [opds, Option.some.injEq] at h
    subst h
    exact RepL.nil _ _
  | x :: xs, ys, h, _, _, _, _, hF => by
    simp only [opds] at h
    split at h
    · rename_i y ys' h1 h2
      simp only [Option.some.injEq] at h
      subst h
      exact RepL.cons (opd_sound h1 hF) (opds_sound h2 hF)
    · cases h

/-! ### What a run of an operation comes to -/

def OkRun (G : Gh) (S : St) (w : World) (id : Nat) (K : AV → St → Prop) (r : Result Value) : Prop :=
  ∃ cv w' v S' G', r = .ok cv w' ∧ K v S' ∧ Ext G S w G' S' w' ∧ Sim G' S' w' ∧ Rep G' w' v cv ∧ ∀ k, G'.live k = true → G.live k = true ∨ k = id

theorem okSame {G : Gh} {S : St} {w : World} {id : Nat} {K : AV → St → Prop} (hS : Sim G S w) {v : AV} {cv : Value} (hK : K v S) (hr : Rep G w v cv) : OkRun G S w id K (.ok cv w) :=
  ⟨cv, w, v, S, G, rfl, hK, Ext.refl _ _ _, hS, hr, fun _ h => .inl h⟩

/-! ### Inversions -/

section inv
variable {G : Gh} {w : World}
theorem rep_int {k : IntKind} {n : Int} {v : Value} (h : Rep G w (.p (.int k n)) v) : v = .int k n := by cases h with | p h => cases h; rfl
theorem rep_bool {b : Bool} {v : Value} (h : Rep G w (.p (.bool b)) v) : v = .bool b := by cases h with | p h => cases h; rfl
theorem rep_ptr {k o : Nat} {v : Value} (h : Rep G w (.ptr k o) v) : v = .pointer (some ⟨G.ptr k, o, none⟩) ∧ G.live k = true := by cases h with | ptr h => exact ⟨rfl, h⟩
theorem rep_agg {cs : List AV} {v : Value} (h : Rep G w (.agg cs) v) : ∃ vs : List Value, v = .agg vs.toArray ∧ RepL G w cs vs ∧ ∀ v ∈ vs, v.oneCell' = true := by
  cases h with | agg hl h h1 => exact ⟨_, rfl, ⟨hl, h⟩, h1⟩
theorem rep_tup {cs : List AV} {v : Value} (h : Rep G w (.tup cs) v) : ∃ vs : List Value, v = .tuple vs.toArray ∧ RepL G w cs vs := by
  cases h with | tup hl h => exact ⟨_, rfl, ⟨hl, h⟩⟩
theorem rep_fn {f : Nat} {cs : List AV} {v : Value} (h : Rep G w (.fn f cs) v) : ∃ vs : List Value, v = .func (.func f) #[] vs.toArray ∧ RepL G w cs vs := by
  cases h with | fn hl h => exact ⟨_, rfl, ⟨hl, h⟩⟩
theorem rep_sl {x : AV} {n : Bool} {xs : List (List PV)} {t : Tok} {v : Value} (he : x.asSl = some (n, xs, t)) (h : Rep G w x v) : RepP G.cls w (.sl n xs) v ∧ TokOk G t xs.length v := by
  unfold AV.asSl at he
  split at he
  · simp only [Option.some.injEq, Prod.mk.injEq] at he
    obtain ⟨rfl, rfl, rfl⟩ := he
    cases h with | p h => exact ⟨h, trivial⟩
  · simp only [Option.some.injEq, Prod.mk.injEq] at he
    obtain ⟨rfl, rfl, rfl⟩ := he
    cases h with | sl h ht => exact ⟨h, ht⟩
  · cases he
theorem repP_sl {n : Bool} {xs : List (List PV)} {v : Value} {cls : Nat → Nat → Cls} (h : RepP cls w (.sl n xs) v) :
    (n = true ∧ xs = [] ∧ v = .slice none 0 0) ∨ (n = false ∧ ∃ (b off cap wd : Nat) (f : Nat → Value) (sp : Option Nat), v = .slice (some ⟨b, off, sp⟩) xs.length cap ∧ xs.length ≤ cap ∧ (∀ (i : Nat) x, xs[i]? = some x → x.length = wd) ∧
      (∀ (i : Nat) x (j : Nat) c, xs[i]? = some x → x[j]? = some c → cls b (off + (i * wd + j)) = .settled ∧ w.cell? ⟨b, off + (i * wd + j), none⟩ = some (f (i * wd + j)) ∧ RepP cls w c (f (i * wd + j))) ∧ (0 < xs.length → sp = none)) := by
  cases h with
  | nil => exact .inl ⟨rfl, rfl, rfl⟩
  | sl b off cap wd xs f sp hsp hcap hw hc hr => exact .inr ⟨rfl, b, off, cap, wd, f, sp, rfl, hcap, hw, fun i x j c h1 h2 => ⟨(hc i x j c h1 h2).1, (hc i x j c h1 h2).2, hr i x j c h1 h2⟩, hsp⟩
theorem repP_emp {cls : Nat → Nat → Cls} (a : Addr) (cap : Nat) : RepP cls w (.sl false []) (.slice (some a) 0 cap) := by
  obtain ⟨b, off, sp⟩ := a
  exact .sl b off cap 0 [] (fun _ => undef) sp (fun h => by simp at h) (by simp) (fun i x h => by simp at h) (fun i x j c h => by simp at h) (fun i x j c h => by simp at h)
theorem repP_mk {cls : Nat → Nat → Cls} {b off cap wd : Nat} {xs : List (List PV)} (hcap : xs.length ≤ cap) (hw : ∀ (i : Nat) x, xs[i]? = some x → x.length = wd)
    (hc : ∀ (i : Nat) x (j : Nat) c, xs[i]? = some x → x[j]? = some c → cls b (off + (i * wd + j)) = .settled ∧ ∃ v, w.cell? ⟨b, off + (i * wd + j), none⟩ = some v ∧ RepP cls w c v) :
    RepP cls w (.sl false xs) (.slice (some ⟨b, off, none⟩) xs.length cap) := by
  refine .sl b off cap wd xs (fun j => (w.cell? ⟨b, off + j, none⟩).getD undef) none (fun _ => rfl) hcap hw (fun i x j c h1 h2 => ?_) (fun i x j c h1 h2 => ?_)
  · obtain ⟨h3, v, h4, _⟩ := hc i x j c h1 h2
    exact ⟨h3, by rw [h4]; rfl⟩
  · obtain ⟨h3, v, h4, h5⟩ := hc i x j c h1 h2
    rw [h4]; exact h5
theorem rep_toPV {x : AV} {c : PV} {v : Value} (he : x.toPV = some c) (h : Rep G w x v) : RepP G.cls w c v := by
  unfold AV.toPV at he
  split at he
  · simp only [Option.some.injEq] at he; subst he; cases h with | p h => exact h
  · simp only [Option.some.injEq] at he; subst he; cases h with | sl h _ => exact h
  · cases he
theorem rep_cells {x : AV} {cs : List AV} {v : Value} (he : x.cells = some cs) (h : Rep G w x v) : RepL G w cs v.cells.toList ∧ ∀ u ∈ v.cells.toList, u.oneCell' = true := by
  have one : ∀ {y : AV} {u : Value}, Rep G w y u → u.oneCell' = true → RepL G w [y] u.cells.toList ∧ ∀ z ∈ u.cells.toList, z.oneCell' = true := by
    intro y u hy hu
    have hc : u.cells = #[u] := by cases u <;> first | rfl | simp [Value.oneCell'] at hu
    rw [hc]
    exact ⟨RepL.cons hy (RepL.nil _ _), by simpa using hu⟩
  cases h with
  | agg hl h h1 => simp only [AV.cells, Option.some.injEq] at he; subst he; exact ⟨⟨hl, h⟩, h1⟩
  | junk => simp [AV.cells] at he
  | tup => simp [AV.cells] at he
  | p h => simp only [AV.cells, Option.some.injEq] at he; subst he; exact one (.p h) h.oneCell
  | sl h ht => simp only [AV.cells, Option.some.injEq] at he; subst he; exact one (.sl h ht) h.oneCell
  | ptr h => simp only [AV.cells, Option.some.injEq] at he; subst he; exact one (.ptr h) rfl
  | ref f hc hr => simp only [AV.cells, Option.some.injEq] at he; subst he; exact one (.ref f hc hr) rfl
  | map h => simp only [AV.cells, Option.some.injEq] at he; subst he; exact one (.map h) rfl
  | fn hl h => simp only [AV.cells, Option.some.injEq] at he; subst he; exact one (.fn hl h) rfl
  | nilfn => simp only [AV.cells, Option.some.injEq] at he; subst he; exact one .nilfn rfl
  | nilptr => simp only [AV.cells, Option.some.injEq] at he; subst he; exact one .nilptr rfl
  | nilmap => simp only [AV.cells, Option.some.injEq] at he; subst he; exact one .nilmap rfl
end inv

/-! ### Arithmetic and comparisons -/

theorem run_arith {P : Program} {op : BinOp} {t : TypeId} {k : IntKind} {a b : Int} {x : AV} (h : arithA op k a b = some x) {x' y' : Operand} (G : Gh) (w : World) :
    ∃ cv, (do eqGuard op t x' y' (.int k a) (.int k b); binOp op t (.int k a) (.int k b) : Sem Value).run P w = .ok cv w ∧ Rep G w x cv := by
  have hg : (eqGuard op t x' y' (.int k a) (.int k b)).run P w = .ok () w := by cases op <;> simp [eqGuard]
  simp only [Sem.run_bind, hg, Result.andThen_ok]
  cases op <;> simp only [arithA, Option.some.injEq, reduceCtorEq] at h
  case quo => split at h <;> simp only [Option.some.injEq, reduceCtorEq] at h; subst h; rename_i hb; exact ⟨_, by simp [binOp, Op.intDiv, hb], .p (.int _ _)⟩
  case rem => split at h <;> simp only [Option.some.injEq, reduceCtorEq] at h; subst h; rename_i hb; exact ⟨_, by simp [binOp, Op.intDiv, hb], .p (.int _ _)⟩
  all_goals subst h
  all_goals first
    | exact ⟨.int k _, by simp [binOp, Op.intArith]; rfl, .p (.int _ _)⟩
    | exact ⟨.bool _, by simp [binOp, Op.intCmp]; rfl, .p (.bool _)⟩
    | exact ⟨.int k _, by simp [binOp, Op.intArith], .p (.int _ _)⟩
    | exact ⟨.bool _, by simp [binOp, Op.intCmp], .p (.bool _)⟩

theorem run_unary_not {P : Program} (b : Bool) (w : World) : (Op.unary .not (.bool b)).run P w = .ok (.bool (!b)) w := rfl
theorem run_unary_neg {P : Program} (k : IntKind) (n : Int) (w : World) : (Op.unary .neg (.int k n)).run P w = .ok (.int k (k.wrap (0 - n))) w := rfl

theorem eqCells_sound : ∀ {L : List (Option IntKind)} {cs ds : List AV} {b : Bool}, eqCells L cs ds = some b → ∀ {G : Gh} {w : World} {vs us : List Value}, RepL G w cs vs → RepL G w ds us →
    fitsL L vs ∧ fitsL L us ∧ eqL vs us = b
  | [], cs, ds, b, h, G, w, vs, us, h1, h2 => by
    unfold eqCells at h
    split at h <;> simp_all
    rw [h1.nil_inv, h2.nil_inv]
    subst h
    simp [fitsL, eqL]
  | q :: L, cs, ds, b, h, G, w, vs, us, h1, h2 => by
    unfold eqCells at h
    split at h
    · simp_all
    · rename_i k L' k1 a cs' k2 b' ds' heq
      simp only [List.cons.injEq] at heq
      obtain ⟨rfl, rfl⟩ := heq
      split at h
      · rename_i hk
        obtain ⟨rfl, rfl⟩ := hk
        simp only [Option.map_eq_some_iff] at h
        obtain ⟨r, hr, rfl⟩ := h
        obtain ⟨v, vs', rfl, p1, p2⟩ := h1.uncons
        obtain ⟨u, us', rfl, q1, q2⟩ := h2.uncons
        rw [rep_int p1, rep_int q1]
        obtain ⟨e1, e2, e3⟩ := eqCells_sound hr p2 q2
        exact ⟨⟨rfl, e1⟩, ⟨rfl, e2⟩, by simp [eqL, e3]⟩
      · cases h
    · rename_i L' a cs' b' ds' heq
      simp only [List.cons.injEq] at heq
      obtain ⟨rfl, rfl⟩ := heq
      simp only [Option.map_eq_some_iff] at h
      obtain ⟨r, hr, rfl⟩ := h
      obtain ⟨v, vs', rfl, p1, p2⟩ := h1.uncons
      obtain ⟨u, us', rfl, q1, q2⟩ := h2.uncons
      rw [rep_bool p1, rep_bool q1]
      obtain ⟨e1, e2, e3⟩ := eqCells_sound hr p2 q2
      exact ⟨e1, e2, by simp [eqL, e3]⟩
    · cases h

theorem run_eqA {P : Program} {t : TypeId} {L : List (Option IntKind)} (hL : leaves P 100 t = some L) (hag : isAggT P t = some true) (hg : P.eqGuardType P.depth t = false) (hsz : L.length = P.cellsOf t) {cs ds : List AV} {b : Bool} (he : eqCells L cs ds = some b)
    {G : Gh} {w : World} {v u : Value} (h1 : Rep G w (.agg cs) v) (h2 : Rep G w (.agg ds) u) (op : BinOp) (hop : op = .eql ∨ op = .neq) (x y : Operand) :
    (do eqGuard op t x y v u; binOp op t v u : Sem Value).run P w = .ok (.bool (if op = .neq then !b else b)) w := by
  obtain ⟨vs, rfl, r1, _⟩ := rep_agg h1
  obtain ⟨us, rfl, r2, _⟩ := rep_agg h2
  obtain ⟨e1, e2, e3⟩ := eqCells_sound he r1 r2
  have form : ∀ {l : List Value}, fitsL L l → (Value.agg l.toArray).formed P t = true := by
    intro l hl
    have := fitsL_length hl
    unfold isAggT at hag
    split at hag <;> simp_all [Value.formed]
  have hq := run_equal_fits (P := P) (w := w) (by omega) hL (form e1) (form e2) (by simpa [Value.cells] using e1) (by simpa [Value.cells] using e2)
  simp only [Value.cells] at hq
  rw [e3] at hq
  rcases hop with rfl | rfl
  · simp only [Sem.run_bind, run_eqGuard_agg w .eql t x y vs.toArray us.toArray hg, Result.andThen_ok, binOp, hq]
    simp
  · simp only [Sem.run_bind, run_eqGuard_agg w .neq t x y vs.toArray us.toArray hg, Result.andThen_ok, binOp, hq]
    simp

end Go.Cw
