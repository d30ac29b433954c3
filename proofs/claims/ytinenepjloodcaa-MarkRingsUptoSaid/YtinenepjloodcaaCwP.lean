/- FUNCTIONS: what a body's weakest precondition says of a call. -/
import Derived.Test.YtinenepjloodcaaCwO
set_option linter.unusedVariables false
set_option linter.unusedSimpArgs false
namespace Go.Cw

/-! ### A block of one's own that is never written again -/

mutual
def fzV (k : Nat) (l : List PV) : AV → AV
  | .ptr k' o => if k' = k then .ref l o else .ptr k' o
  | .agg cs => .agg (fzL k l cs)
  | .tup cs => .tup (fzL k l cs)
  | .fn f cs => .fn f (fzL k l cs)
  | .junk => .junk
  | .p c => .p c
  | .sl n xs t => .sl n xs t
  | .ref cs o => .ref cs o
  | .map k => .map k
  | .nilfn => .nilfn
  | .nilptr => .nilptr
  | .nilmap => .nilmap
def fzL (k : Nat) (l : List PV) : List AV → List AV
  | [] => []
  | c :: cs => fzV k l c :: fzL k l cs
end

theorem fzL_map (k : Nat) (l : List PV) : ∀ cs, fzL k l cs = cs.map (fzV k l)
  | [] => rfl
  | c :: cs => by simp [fzL, fzL_map k l cs]

def Gh.fz (G : Gh) (k n : Nat) : Gh :=
  { G with cls := fun b o => match G.cls b o with
    | .own k' => if k' = k then (if b = G.ptr k ∧ o < n then .settled else .free) else .own k'
    | c => c }

/-- No block bears a name that is not given yet. -/
def St.wf (S : St) : Prop := ∀ k, S.n ≤ k → S.H k = none

def St.del (S : St) (k : Nat) : St := { S with H := fun i => if i = k then none else S.H i }

section
variable {P : Program} {G : Gh} {S : St} {w : World} {k n : Nat}

theorem fz_settled {b o : Nat} (h : G.cls b o = .settled) : (G.fz k n).cls b o = .settled := by simp only [Gh.fz, h]

theorem fz_own {b o j : Nat} : (G.fz k n).cls b o = .own j ↔ G.cls b o = .own j ∧ j ≠ k := by
  simp only [Gh.fz]
  split
  · rename_i k' hk
    rw [hk]
    split
    · rename_i e
      constructor
      · intro h; split at h <;> cases h
      · rintro ⟨h, h2⟩; simp only [Cls.own.injEq] at h; omega
    · rename_i e
      simp only [Cls.own.injEq]
      constructor
      · intro h; exact ⟨h, by omega⟩
      · intro h; exact h.1
  · rename_i h
    constructor
    · intro e; exact absurd e (h j)
    · rintro ⟨e, _⟩; exact absurd e (h j)

theorem Le.fz : Le G w (G.fz k n) w := ⟨fun _ h => h, fun _ _ => rfl, fun _ _ => ⟨Nat.le_refl _, fun _ => rfl⟩, fun _ _ h => fz_settled h, fun _ _ _ => rfl⟩

theorem Ext.fz : Ext G S w (G.fz k n) (S.del k) w where
  toLe := Le.fz
  os := rfl
  tape := rfl
  output := rfl
  size := Nat.le_refl _
  kept _ _ _ := rfl
  own b _ o j h1 h2 := by
    obtain ⟨h3, h4⟩ := fz_own.1 h1
    refine ⟨j, h3, ?_⟩
    simp only [St.del, if_neg h4] at h2
    exact h2

theorem Sim.fz (hS : Sim G S w) {cs : List AV} (hk : S.H k = some (.cells cs)) : Sim (G.fz k cs.length) (S.del k) w := by
  obtain ⟨vs, e, h1, h2, h3, h4, h5⟩ := blk_cells hS hk
  have hlen : cs.length = vs.size := by simpa using h2.1
  refine ⟨⟨fun j b hb => ?_, fun j hj => hS.bnd j hj, fun b o hb => ?_, fun b o hb => ?_⟩, fun b o j hb => ?_⟩
  · simp only [St.del] at hb
    split at hb
    · cases hb
    · rename_i hj
      obtain ⟨q1, q2⟩ := hS.blk j b hb
      exact ⟨q1, q2.keep Le.fz q1 rfl (fun q => ⟨rfl, fun o => fz_own.2 ⟨q o, hj⟩⟩) (fun b o q q' q'' => ⟨fz_own.2 ⟨q, hj⟩, q', q''⟩)⟩
  · simp only [Gh.fz] at hb
    split at hb
    · rename_i j hj
      split at hb
      · split at hb
        · rename_i hbo
          rw [hbo.1, h5]
          simp [show o < vs.size by omega]
        · cases hb
      · cases hb
    · exact hS.set b o hb
  · simp only [Gh.fz, hS.free b o hb]
  · exact hS.own b o j (fz_own.1 hb).1

theorem Rep.fz (hS : Sim G S w) {cs : List AV} (hk : S.H k = some (.cells cs)) {l : List PV} (hl : toPVs cs = some l) {x : AV} {v : Value} (h : Rep G w x v) : Rep (G.fz k cs.length) w (fzV k l x) v := by
  induction h with
  | junk v => exact .junk v
  | p h => exact .p (h.mono (fun _ _ h => fz_settled h) fun _ _ _ => rfl)
  | sl h ht => exact Rep.mono (Le.fz (k := k) (n := cs.length) (w := w)) (.sl h ht)
  | agg hl h h1 ih =>
    simp only [fzV, fzL_map]
    refine .agg (by simpa using hl) (fun i c v hc hv => ?_) h1
    simp only [List.getElem?_map, Option.map_eq_some_iff] at hc
    obtain ⟨c', hc', rfl⟩ := hc
    exact ih i c' v hc' hv
  | tup hl h ih =>
    simp only [fzV, fzL_map]
    refine .tup (by simpa using hl) (fun i c v hc hv => ?_)
    simp only [List.getElem?_map, Option.map_eq_some_iff] at hc
    obtain ⟨c', hc', rfl⟩ := hc
    exact ih i c' v hc' hv
  | fn hl h ih =>
    simp only [fzV, fzL_map]
    refine .fn (by simpa using hl) (fun i c v hc hv => ?_)
    simp only [List.getElem?_map, Option.map_eq_some_iff] at hc
    obtain ⟨c', hc', rfl⟩ := hc
    exact ih i c' v hc' hv
  | ptr h =>
    rename_i k' o
    simp only [fzV]
    split
    · rename_i e
      subst e
      obtain ⟨vs, e, h1, h2, h3, h4, h5⟩ := blk_cells hS hk
      obtain ⟨g1, g2⟩ := toPVs_sound hl h2
      have hlen : cs.length = vs.size := by simpa using h2.1
      have : Rep (G.fz k' cs.length) w (.ref l o) (.pointer (some ⟨G.ptr k', 0 + o, none⟩)) := by
        refine rep_ref_mk fun j c hj => ?_
        have hj' : j < vs.size := by rw [← Array.length_toList, ← g1]; exact (List.getElem?_eq_some_iff.1 hj).1
        refine ⟨?_, vs[j], by rw [Nat.zero_add, h5]; simp [hj'], (g2 j c vs[j] hj (by simp [hj'])).mono (fun _ _ h => fz_settled h) fun _ _ _ => rfl⟩
        rw [Nat.zero_add]
        simp only [Gh.fz, h4 j]
        simp [hlen, hj']
      rwa [Nat.zero_add] at this
    · exact Rep.ptr (G := G.fz k cs.length) h
  | ref f hc hr => exact Rep.mono (Le.fz (k := k) (n := cs.length) (w := w)) (.ref f hc hr)
  | map h => exact Rep.map (G := G.fz k cs.length) h
  | nilfn => exact .nilfn
  | nilptr => exact .nilptr
  | nilmap => exact .nilmap

end

/-! ### Results -/

inductive ARes where
  | tmp (t : Nat)
  | cell1 (t : Nat)
  | cellA (n t : Nat)

def compRes (P : Program) : ResultVar → Option ARes
  | .tmp t => some (.tmp t)
  | .cell a t => match isAggT P t, sizeT P t with
    | some true, some n => some (.cellA n a)
    | some false, _ => some (.cell1 a)
    | _, _ => none

def compRess (P : Program) : List ResultVar → Option (List ARes)
  | [] => some []
  | r :: rs => match compRes P r, compRess P rs with
    | some x, some xs => some (x :: xs)
    | _, _ => none

def resA (F : Nat → AV) (S : St) : ARes → Option AV
  | .tmp t => some (F t)
  | .cell1 t => match F t with
    | .ptr k o => match S.H k with
      | some (.cells cs) => cs[o]?
      | _ => none
    | _ => none
  | .cellA n t => match F t with
    | .ptr k o => match S.H k with
      | some (.cells cs) => if o + n ≤ cs.length then some (.agg ((cs.drop o).take n)) else none
      | _ => none
    | _ => none

def resAs (F : Nat → AV) (S : St) : List ARes → Option (List AV)
  | [] => some []
  | r :: rs => match resA F S r, resAs F S rs with
    | some x, some xs => some (x :: xs)
    | _, _ => none

def pack : List AV → AV
  | [x] => x
  | xs => .tup xs

structure AFunc where
  nt : Nat
  res : List ARes
  code : ACode

def compFunc (P : Program) (same : List Nat) (f : Nat) : Option AFunc :=
  match P.funcs[f]? with
  | some fn => match fn.body, compRess P fn.results.toList with
    | some c, some rs => (compCode P fn.ntmps same c).map fun a => ⟨fn.ntmps, rs, a⟩
    | _, _ => none
  | none => none

section
variable {P : Program} {G : Gh} {S : St} {w : World} {F : Nat → AV} {a : Act}

def resRun (tmps : Array Value) (r : ResultVar) : Sem Value := match r with
  | .tmp t => pure (tmps.getD t undef)
  | .cell a t => do loadVar t (← asAddr (tmps.getD a undef))

theorem res_sound (hS : Sim G S w) (hF : FRep G w F a) {r : ResultVar} {x : ARes} (hc : compRes P r = some x) {y : AV} (h : resA F S x = some y) : ∃ v, (resRun a.tmps r).run P w = .ok v w ∧ Rep G w y v := by
  cases r with
  | tmp t =>
    simp only [compRes, Option.some.injEq] at hc
    subst hc
    simp only [resA, Option.some.injEq] at h
    subst h
    exact ⟨_, rfl, hF t⟩
  | cell a' t =>
    simp only [compRes] at hc
    split at hc
    · rename_i n h1 h2
      simp only [Option.some.injEq] at hc
      subst hc
      simp only [resA] at h
      split at h
      · rename_i k o hk
        split at h
        · rename_i cs hcs
          split at h
          · rename_i hle
            simp only [Option.some.injEq] at h
            subst h
            have hr := hF a'
            rw [hk] at hr
            have he := (rep_ptr hr).1
            obtain ⟨vs, e, g1, g2, g3, g4, g5⟩ := blk_cells hS hcs
            have hlen : cs.length = vs.size := by simpa using g2.1
            have hload := run_loadCells_list (P := P) w ⟨G.ptr k, o, none⟩ ((vs.toList.drop o).take n) (fun j v hv => by
              rw [add_none, g5]
              simp only [List.getElem?_take, List.getElem?_drop] at hv
              split at hv
              · simpa using hv
              · cases hv)
            have hl : ((vs.toList.drop o).take n).length = n := by simp; omega
            refine ⟨.agg ((vs.toList.drop o).take n).toArray, ?_, .agg (by simp [hlen]) (fun i c v hc hv => ?_) (fun v hv => g3 v (List.mem_of_mem_drop (List.mem_of_mem_take hv)))⟩
            · simp only [resRun, he]
              rw [hl] at hload
              simp [asAddr, loadVar, isAggT_run h1, sizeT_run h2, hload]
            · simp only [List.getElem?_take, List.getElem?_drop] at hc hv
              split at hc
              · rename_i hi; rw [if_pos hi] at hv; exact g2.2 _ c v hc hv
              · cases hc
          · cases h
        · cases h
      · cases h
    · rename_i h1
      simp only [Option.some.injEq] at hc
      subst hc
      simp only [resA] at h
      split at h
      · rename_i k o hk
        split at h
        · rename_i cs hcs
          have hr := hF a'
          rw [hk] at hr
          have he := (rep_ptr hr).1
          obtain ⟨vs, e, g1, g2, g3, g4, g5⟩ := blk_cells hS hcs
          obtain ⟨v, hv, hr⟩ := g2.get o y h
          have hcell : w.cell? ⟨G.ptr k, o, none⟩ = some v := by rw [g5]; simpa using hv
          refine ⟨v, ?_, hr⟩
          simp only [resRun, he]
          simp [asAddr, loadVar, isAggT_run h1, hcell]
        · cases h
      · cases h
    · cases hc

theorem ress_sound (hS : Sim G S w) (hF : FRep G w F a) : ∀ {rs : List ResultVar} {xs : List ARes}, compRess P rs = some xs → ∀ {ys : List AV}, resAs F S xs = some ys → ∃ vs, (rs.mapM (resRun a.tmps)).run P w = .ok vs w ∧ RepL G w ys vs
  | [], xs, hc, ys, h => by
    simp only [compRess, Option.some.injEq] at hc
    subst hc
    simp only [resAs, Option.some.injEq] at h
    subst h
    exact ⟨[], by simp, RepL.nil _ _⟩
  | r :: rs, xs, hc, ys, h => by
    simp only [compRess] at hc
    split at hc
    · rename_i x xs' h1 h2
      simp only [Option.some.injEq] at hc
      subst hc
      simp only [resAs] at h
      split at h
      · rename_i y ys' h3 h4
        simp only [Option.some.injEq] at h
        subst h
        obtain ⟨v, e1, e2⟩ := res_sound hS hF h1 h3
        obtain ⟨vs, e3, e4⟩ := ress_sound hS hF h2 h4
        exact ⟨v :: vs, by rw [List.mapM_cons, Sem.run_bind, e1, Result.andThen_ok, Sem.run_bind, e3, Result.andThen_ok, Sem.run_pure], RepL.cons e2 e4⟩
      · cases h
    · cases hc

theorem results_sound (hS : Sim G S w) (hF : FRep G w F a) {fn : Func} {xs : List ARes} (hc : compRess P fn.results.toList = some xs) {ys : List AV} (h : resAs F S xs = some ys) :
    ∃ v, (results fn a.tmps).run P w = .ok v w ∧ Rep G w (pack ys) v := by
  obtain ⟨vs, e1, e2⟩ := ress_sound hS hF hc h
  have hm : (fn.results.mapM (resRun a.tmps)).run P w = .ok vs.toArray w := by
    rw [Array.mapM_eq_mapM_toList, Sem.run_map, e1]
    rfl
  have hres : results fn a.tmps = (do let vs ← fn.results.mapM (resRun a.tmps); pure (if h : vs.size = 1 then vs[0] else .tuple vs)) := rfl
  rw [hres, Sem.run_bind, hm, Result.andThen_ok, Sem.run_pure]
  cases ys with
  | nil =>
    have : vs = [] := RepL.nil_inv e2
    subst this
    exact ⟨_, rfl, .tup (vs := []) rfl (by simp)⟩
  | cons y ys =>
    cases ys with
    | nil =>
      obtain ⟨v, vs', rfl, h1, h2⟩ := e2.uncons
      have : vs' = [] := RepL.nil_inv h2
      subst this
      exact ⟨_, rfl, h1⟩
    | cons y' ys' =>
      have hl : vs.length = ys'.length + 2 := by rw [← e2.1]; simp
      refine ⟨_, rfl, ?_⟩
      rw [dif_neg (by simp; omega)]
      exact .tup e2.1 e2.2

/-! ### A call -/

/-- What a body must have come to when it ends. -/
structure Ends (S : St) (res : List ARes) (r : AV) (S' : St) (F1 : Nat → AV) (S1 : St) : Prop where
  mk ::
  go : ∃ rs, resAs F1 S1 res = some rs ∧ wkV S.n (pack rs) r ∧ wkS S S1 S'

structure EndsFz (S : St) (res : List ARes) (r : AV) (S' : St) (F1 : Nat → AV) (S1 : St) : Prop where
  mk ::
  go : ∃ rs k cs l, resAs F1 S1 res = some rs ∧ S1.H k = some (.cells cs) ∧ toPVs cs = some l ∧ wkV S.n (fzV k l (pack rs)) r ∧ wkS S (S1.del k) S'

def endQ (S : St) (res : List ARes) (r : AV) (S' : St) : Exit → (Nat → AV) → St → Prop
  | .normal, F, S1 | .ret, F, S1 => Ends S res r S' F S1 ∨ EndsFz S res r S' F S1
  | _, _, _ => False

theorem frep_args {args : List AV} {vs : List Value} (h : RepL G w args vs) (n : Nat) : FRep G w (fun t => args.getD t .junk) { tmps := vs.toArray ++ Array.replicate (n - vs.toArray.size) undef, defers := [] } := by
  intro t
  show Rep G w (args.getD t .junk) _
  rw [List.getD_eq_getElem?_getD]
  cases hq : args[t]? with
  | none => exact .junk _
  | some x =>
    obtain ⟨v, hv, hr⟩ := h.get t x hq
    have ht : t < vs.length := (List.getElem?_eq_some_iff.1 hv).1
    simp only [Option.getD_some]
    have : (vs.toArray ++ Array.replicate (n - vs.toArray.size) undef).getD t undef = v := by
      rw [Array.getD_eq_getD_getElem?, Array.getElem?_append_left (by simpa using ht)]
      simp [hv]
    rw [this]
    exact hr

theorem aspec_of {f : Nat} {same : List Nat} {af : AFunc} (hm : P.follows .mixedOrders = true) (hc : compFunc P same f = some af) {args : List AV} (hlen : args.length ≤ af.nt) {S : St} {r : AV} {S' : St} (hn : S'.n = S.n)
    (h : S.wf → AV.underL S.n args → awp P S af.code (fun t => args.getD t .junk) S (endQ S af.res r S')) : ASpec P f args S r S' := by
  intro G w vs hS hr
  have hwf : S.wf := fun k hk => by
    cases hq : S.H k with
    | none => rfl
    | some b => have := hS.bnd k (hS.blk k b hq).1; omega
  have hul : AV.underL S.n args := underL_of fun i c hc => by
    obtain ⟨v, _, hv⟩ := hr.get i c hc
    exact hv.alive hS.bnd
  unfold compFunc at hc
  split at hc
  · rename_i fn hf
    split at hc
    · rename_i c rs hb hrs
      simp only [Option.map_eq_some_iff] at hc
      obtain ⟨ac, hac, rfl⟩ := hc
      refine calls_of_wp hf hb ?_
      have hsz : vs.length ≤ fn.ntmps := by rw [← hr.1]; exact hlen
      have := awp_sound hm hS c ac hac _ S _ (h hwf hul) G w _ (Ext.refl _ _ _) hS (frep_args hr fn.ntmps) (by simp; omega) (Nat.le_refl _) (fun _ _ h => h)
      refine wp_mono this ?_
      rintro e a' w' ⟨F', S1, G', hq, he, hS1, hF', hd, hz, hn1, hv⟩
      have fin : (Ends S rs r S' F' S1 ∨ EndsFz S rs r S' F' S1) → a'.defers = [] ∧ ∃ v, (results fn a'.tmps).run P w' = .ok v w' ∧ ∃ v_1 G', Ending.returned v = .returned v_1 ∧ Ext G S w G' S' w' ∧ Sim G' S' w' ∧ Rep G' w' r v_1 ∧ ∀ k, G'.live k = true → G.live k = true := by
        intro hq
        refine ⟨hd, ?_⟩
        rcases hq with ⟨rs', h1, h2, h3⟩ | ⟨rs', k, cs, l, h1, h4, h6, h2, h3⟩
        · obtain ⟨v, e1, e2⟩ := results_sound hS1 hF' hrs h1
          refine ⟨v, e1, v, G'.cut S'.n, rfl, Ext.wk hS he h3, Sim.wk hS1 h3 hS, ?_, fun k hk => ?_⟩
          · rw [hn]; exact e2.wk h2
          · simp only [Gh.cut, Bool.and_eq_true, decide_eq_true_eq] at hk
            exact hv k (by omega) hk.1
        · obtain ⟨v, e1, e2⟩ := results_sound hS1 hF' hrs h1
          have hS2 := hS1.fz h4
          refine ⟨v, e1, v, (G'.fz k cs.length).cut S'.n, rfl, Ext.wk hS (he.trans Ext.fz) h3, Sim.wk hS2 h3 hS, ?_, fun k hk => ?_⟩
          · rw [hn]; exact (e2.fz hS1 h4 h6).wk h2
          · simp only [Gh.cut, Gh.fz, Bool.and_eq_true, decide_eq_true_eq] at hk
            exact hv k (by omega) hk.1
      cases e with
      | normal => exact fin hq
      | ret => exact fin hq
      | exit id => exact hq.elim
      | goto l => exact hq.elim
      | panic ch => exact hq.elim
      | outgrown => exact hq.elim
    · cases hc
  · cases hc

end
end Go.Cw
