/- EACH OPERATION IS SOUND: all together. -/
import Derived.Test.YtinenepjloodcaaCwH
set_option linter.unusedVariables false
set_option linter.unusedSimpArgs false
namespace Go.Cw

section
variable {P : Program} {G : Gh} {S : St} {w : World} {id : Nat} {K : AV → St → Prop}

def kdOk : Nat → TypeDesc → Prop
  | 0, .slice _ => True
  | 1, .pointer _ => True
  | 2, .map _ _ => True
  | 3, .func _ _ _ => True
  | _, _ => False

theorem run_eqNil {t : TypeId} {kd : Nat} {x y : AV} {b : Bool} (he : eqNilA kd x y = some b)
    (ht : ∃ d, P.underlying t = some d ∧ kdOk kd d)
    {v u : Value} (h1 : Rep G w x v) (h2 : Rep G w y u) (op : BinOp) (hop : op = .eql ∨ op = .neq) (x' y' : Operand) :
    (do eqGuard op t x' y' v u; binOp op t v u : Sem Value).run P w = .ok (.bool (if op = .neq then !b else b)) w := by
  have fin : ∀ {v u : Value}, (∀ k a, v ≠ .int k a) → (∀ k a, v ≠ .float k a) → (∀ k a b, v ≠ .complex k a b) → (∀ a, v ≠ .string a) → (∀ a, v ≠ .agg a) → v ≠ .nilIface → (∀ d, (Op.equalIn (d + 1) t v u).run P w = .ok b w) →
      (do eqGuard op t x' y' v u; binOp op t v u : Sem Value).run P w = .ok (.bool (if op = .neq then !b else b)) w := by
    intro v u n1 n2 n3 n4 n5 n6 hr
    have hq : (Op.equal t v u).run P w = .ok b w := hr 9999
    have hg : (eqGuard op t x' y' v u).run P w = .ok () w := by
      unfold eqGuard
      rcases hop with rfl | rfl <;> cases v <;> first | exact absurd rfl n6 | exact absurd rfl (n5 _) | simp
    have hb : (binOp op t v u).run P w = .ok (.bool (if op = .neq then !b else b)) w := by
      unfold binOp
      rcases hop with rfl | rfl <;> cases v <;> first | exact absurd rfl (n1 _ _) | exact absurd rfl (n2 _ _) | exact absurd rfl (n3 _ _ _) | exact absurd rfl (n4 _) | simp [hq]
    simp only [Sem.run_bind, hg, Result.andThen_ok, hb]
  unfold eqNilA at he
  split at he
  · obtain ⟨d, hu, hd⟩ := ht
    obtain ⟨e, rfl⟩ : ∃ e, d = .slice e := by cases d <;> first | exact hd.elim | exact ⟨_, rfl⟩
    split at he
    · rename_i n xs t1 m ys t2 hx hy
      obtain ⟨r1, _⟩ := rep_sl hx h1
      obtain ⟨r2, _⟩ := rep_sl hy h2
      split at he
      · rename_i hn
        subst hn
        simp only [Option.some.injEq] at he
        subst he
        rcases repP_sl r1 with ⟨_, _, rfl⟩ | ⟨h, _⟩
        · rcases repP_sl r2 with ⟨rfl, _, rfl⟩ | ⟨rfl, b', off, cap, wd, f, sp, rfl, _⟩ <;>
            exact fin (by simp) (by simp) (by simp) (by simp) (by simp) (by simp) (fun d => by simp [Op.equalIn, run_underlying hu])
        · cases h
      · rename_i hn
        split at he
        · rename_i hm
          subst hm
          simp only [Option.some.injEq] at he
          subst he
          rcases repP_sl r1 with ⟨h, _, rfl⟩ | ⟨_, b', off, cap, wd, f, sp, rfl, _⟩
          · exact absurd h hn
          · rcases repP_sl r2 with ⟨_, _, rfl⟩ | ⟨h, _⟩
            · exact fin (by simp) (by simp) (by simp) (by simp) (by simp) (by simp) (fun d => by simp [Op.equalIn, run_underlying hu])
            · cases h
        · cases he
    · cases he
  all_goals first
    | (cases he; done)
    | skip
  all_goals
    simp only [Option.some.injEq] at he
    subst he
    obtain ⟨d, hu, hd⟩ := ht
    cases h1
    cases h2
    cases d <;> first | (exact hd.elim) | exact fin (by simp) (by simp) (by simp) (by simp) (by simp) (by simp) (fun d => by simp [Op.equalIn, run_underlying hu])

theorem run_eqB {t : TypeId} (hu : P.underlying t = some .bool) (a b : Bool) (op : BinOp) (hop : op = .eql ∨ op = .neq) (x' y' : Operand) :
    (do eqGuard op t x' y' (.bool a) (.bool b); binOp op t (.bool a) (.bool b) : Sem Value).run P w = .ok (.bool (if op = .neq then !(a == b) else a == b)) w := by
  have hq : (Op.equal t (.bool a) (.bool b)).run P w = .ok (a == b) w := run_equal_bool w t a b hu
  rcases hop with rfl | rfl <;> simp [eqGuard, binOp, hq]

theorem run_minmax (isMax : Bool) : ∀ (rest : List AV) (x r : AV) (v : Value) (vs : List Value), minmaxA isMax x rest = some r → Rep G w x v → RepL G w rest vs →
    ∃ cv, (vs.foldlM (if isMax then Builtin.max2 else Builtin.min2) v : Sem Value).run P w = .ok cv w ∧ Rep G w r cv
  | [], x, r, v, vs, h, hx, hr => by
    have hvs := hr.nil_inv
    subst hvs
    cases x <;> simp only [minmaxA, Option.some.injEq] at h <;> subst h <;> exact ⟨v, by simp, hx⟩
  | y :: rest, x, r, v, vs, h, hx, hr => by
    obtain ⟨u, us, rfl, h1, h2⟩ := hr.uncons
    unfold minmaxA at h
    split at h
    · rename_i heq; cases heq
    · rename_i k a k' b rest' heq
      simp only [List.cons.injEq] at heq
      obtain ⟨rfl, rfl⟩ := heq
      split at h
      · rename_i hk
        subst hk
        rw [rep_int hx, rep_int h1]
        obtain ⟨cv, h3, h4⟩ := run_minmax isMax rest _ r (.int k (if isMax then (if b > a then b else a) else (if b < a then b else a))) us h (.p (.int _ _)) h2
        refine ⟨cv, ?_, h4⟩
        simp only [List.foldlM_cons, Sem.run_bind]
        cases isMax
        · simp only [Bool.false_eq_true, if_false] at h3 ⊢
          simp only [Builtin.min2, Sem.run_pure, Result.andThen_ok]; exact h3
        · simp only [if_true] at h3 ⊢
          simp only [Builtin.max2, Sem.run_pure, Result.andThen_ok]; exact h3
      · cases h
    · cases h

theorem opdO_sound {x : Option Operand} {y : Option Opd} (h : opdO x = some y) {F : Nat → AV} {a : Act} (hF : FRep G w F a) :
    (y = none ∧ x = none) ∨ ∃ x' y', x = some x' ∧ y = some y' ∧ Rep G w (evalO F y') (a.eval x') := by
  cases x with
  | none => simp only [opdO, Option.some.injEq] at h; exact .inl ⟨h.symm, rfl⟩
  | some x =>
    simp only [opdO, Option.map_eq_some_iff] at h
    obtain ⟨y', h1, rfl⟩ := h
    exact .inr ⟨x, y', rfl, rfl, opd_sound h1 hF⟩

theorem boundA_some {d : Nat} {x : AV} {v : Value} {l : Int} (h : boundA d (some x) = some l) (hr : Rep G w x v) : ∃ k, v = .int k l := by
  unfold boundA at h
  split at h
  · rename_i e; cases e
  · rename_i k n e
    simp only [Option.some.injEq] at e h
    subst e; subst h
    exact ⟨k, rep_int hr⟩
  · cases h

theorem ok_slice (hS : Sim G S w) {t e : TypeId} {sz : Nat} (hu : P.underlying t = some (.slice e)) (hs : sizeT P e = some sz) {x : AV} {v : Value} {nil : Bool} {xs : List (List PV)} {tk : Tok} (hx : x.asSl = some (nil, xs, tk)) (hr : Rep G w x v)
    (hw : ∀ e ∈ xs, e.length = sz) {vlo vhi vmx : Option Value} {l h : Int} (bl : (vlo = none ∧ l = 0) ∨ ∃ k, vlo = some (.int k l)) (bh : (vhi = none ∧ h = xs.length) ∨ ∃ k, vhi = some (.int k h)) (h0 : 0 ≤ l) (h1 : l ≤ h) (h2 : h ≤ xs.length)
    (hm : (vmx = none ∧ K (.sl nil ((xs.take h.toNat).drop l.toNat) (cutTok tk vhi.isNone)) S) ∨ (vhi.isSome = true ∧ (∃ k, vmx = some (.int k h)) ∧ K (.sl nil ((xs.take h.toNat).drop l.toNat) .full) S)) :
    OkRun G S w id K ((Instr.sliceAt t v vlo vhi vmx).run P w) := by
  obtain ⟨rp, rt⟩ := rep_sl hx hr
  obtain ⟨base, cap, rfl, hcap⟩ : ∃ base cap, v = .slice base xs.length cap ∧ xs.length ≤ cap := by
    rcases repP_sl rp with ⟨_, rfl, rfl⟩ | ⟨_, b, off, cap, wd, f, sp, rfl, hcap, _⟩
    · exact ⟨none, 0, rfl, Nat.le_refl _⟩
    · exact ⟨_, cap, rfl, hcap⟩
  have hget : ∀ (i : Nat) e, xs[i]? = some e → e.length = sz := fun i e hi => hw e (List.mem_of_getElem? hi)
  have hl0 : (l.toNat : Int) = l := Int.toNat_of_nonneg h0
  have hh0 : (h.toNat : Int) = h := Int.toNat_of_nonneg (by omega)
  have hlen : ((xs.take h.toNat).drop l.toNat).length = h.toNat - l.toNat := by simp; omega
  have hL : ∀ (k : IntKind) (code : BoundsCode), (Instr.sliceBound (.int k l) h.toNat code).run P w = .ok l.toNat w := fun k code => run_sliceBound_in h0 (by omega) w
  have hL' : ∀ (k : IntKind) (code : BoundsCode), h = xs.length → (Instr.sliceBound (.int k l) xs.length code).run P w = .ok l.toNat w := fun k code e => run_sliceBound_in h0 (by omega) w
  have hH : ∀ (k : IntKind) (code : BoundsCode), (Instr.sliceBound (.int k h) cap code).run P w = .ok h.toNat w := fun k code => run_sliceBound_in (by omega) (by omega) w
  have hH' : ∀ (k : IntKind) (code : BoundsCode), (Instr.sliceBound (.int k h) h.toNat code).run P w = .ok h.toNat w := fun k code => run_sliceBound_in (by omega) (by omega) w
  rcases hm with ⟨rfl, hK⟩ | ⟨hsome, ⟨km, rfl⟩, hK⟩
  · -- no third index
    have hb : (Instr.sliceBounds true xs.length cap vlo vhi none).run P w = .ok (l.toNat, h.toNat, cap) w := by
      rcases bh with ⟨rfl, hb⟩ | ⟨k, rfl⟩
      · have e : h.toNat = xs.length := by omega
        rcases bl with ⟨rfl, rfl⟩ | ⟨k, rfl⟩
        · simp [Instr.sliceBounds, e]
        · simp [Instr.sliceBounds, hL' k _ hb, e]
      · rcases bl with ⟨rfl, rfl⟩ | ⟨k', rfl⟩
        · simp [Instr.sliceBounds, hH k]
        · simp [Instr.sliceBounds, hH k, hL k']
    rw [run_sliceAt_slice' hu hs hb]
    have hrp := repP_cut (m := cap) rp (fun _ _ => .inr (.inr trivial)) hget (show l.toNat ≤ h.toNat by omega) (show h.toNat ≤ xs.length by omega) (by omega) (Nat.le_refl _)
    refine okSame hS hK (.sl hrp ?_)
    rw [hlen]
    cases tk with
    | no => trivial
    | vec k => trivial
    | full =>
      obtain ⟨a', ha'⟩ := rt
      simp only [Value.slice.injEq] at ha'
      obtain ⟨_, _, hcl⟩ := ha'
      rcases bh with ⟨rfl, hb⟩ | ⟨k, rfl⟩
      · have : h.toNat = xs.length := by omega
        rw [this, hcl]
        exact ⟨_, rfl⟩
      · trivial
  · -- a third index
    rcases bh with ⟨rfl, hb⟩ | ⟨k, rfl⟩
    · cases hsome
    · have hb : (Instr.sliceBounds true xs.length cap vlo (some (.int k h)) (some (.int km h))).run P w = .ok (l.toNat, h.toNat, h.toNat) w := by
        rcases bl with ⟨rfl, rfl⟩ | ⟨k', rfl⟩
        · simp [Instr.sliceBounds, hH km, hH' k]
        · simp [Instr.sliceBounds, hH km, hH' k, hL k']
      rw [run_sliceAt_slice' hu hs hb]
      have hrp := repP_cut (m := h.toNat) rp (fun _ _ => .inr (.inr trivial)) hget (show l.toNat ≤ h.toNat by omega) (show h.toNat ≤ xs.length by omega) (Nat.le_refl _) (by omega)
      refine okSame hS hK (.sl hrp ?_)
      rw [hlen]
      exact ⟨_, rfl⟩

end
end Go.Cw
