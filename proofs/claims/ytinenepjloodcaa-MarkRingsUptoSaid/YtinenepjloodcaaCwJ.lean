/- EACH OPERATION IS SOUND: the theorem. -/
import Derived.Test.YtinenepjloodcaaCwI
import Derived.Test.YtinenepjloodcaaCwV
set_option linter.unusedVariables false
set_option linter.unusedSimpArgs false
namespace Go.Cw

section
variable {P : Program} {G : Gh} {S : St} {w : World} {id : Nat} {K : AV → St → Prop}

def Goes (G : Gh) (S : St) (w : World) (id : Nat) (K : AV → St → Prop) (next : Value → World → Prop) : Prop :=
  ∀ cv w' v S' G', K v S' → Ext G S w G' S' w' → Sim G' S' w' → Rep G' w' v cv → (∀ k, G'.live k = true → G.live k = true ∨ k = id) → next cv w'

theorem upon_run {o : Oper} {a : Act} {next : Act → World → Prop} {Q : Exit → Act → World → Prop} {s : Sem Value} (h : OkRun G S w id K (s.run P w)) (hn : Goes G S w id K fun cv w' => next (a.put o.dst cv) w') :
    o.upon P a next Q ((do pure (Next.value (← s)) : Sem Next).run P w) := by
  obtain ⟨cv, w', v, S', G', hr, h1, h2, h3, h4, h5⟩ := h
  have : (do pure (Next.value (← s)) : Sem Next).run P w = .ok (.value cv) w' := by rw [Sem.run_bind, hr]; rfl
  rw [this]
  exact hn cv w' v S' G' h1 h2 h3 h4 h5

theorem upon_value {o : Oper} {a : Act} {next : Act → World → Prop} {Q : Exit → Act → World → Prop} {cv : Value} (hS : Sim G S w) {v : AV} (hK : K v S) (hr : Rep G w v cv) (hn : Goes G S w id K fun cv w' => next (a.put o.dst cv) w') :
    o.upon P a next Q (.ok (.value cv) w) := hn cv w v S G hK (Ext.refl _ _ _) hS hr (fun _ h => .inl h)

theorem upon_call {o : Oper} {a : Act} {next : Act → World → Prop} {Q : Exit → Act → World → Prop} {f : Nat} {args : List AV} {vs : List Value} {r : AV} {S' : St} (hS : Sim G S w) (hr : RepL G w args vs) (hs : ASpec P f args S r S') (hK : K r S')
    (hn : Goes G S w id K fun cv w' => next (a.put o.dst cv) w') : o.upon P a next Q (.ok (.enter f vs.toArray) w) := by
  rw [Oper.upon_enter]
  refine (hs G w vs hS hr).mono ?_
  rintro e w' ⟨v, G', rfl, h1, h2, h3, h4⟩
  exact hn v w' r S' G' hK h1 h2 h3 (fun k hk => .inl (h4 k hk))

theorem upon_callF {o : Oper} {a : Act} {next : Act → World → Prop} {Q : Exit → Act → World → Prop} {f sz : Nat} {args : List AV} {vs : List Value} {xs : List (List PV)} (hS : Sim G S w) (hid : G.live id = false) (hn : id < S.n) (hr : RepL G w args vs) (hs : FSpec P f args xs sz)
    (hK : K (.sl xs.isEmpty xs (.vec id)) (S.put id (.fr xs.length sz))) (hg : Goes G S w id K fun cv w' => next (a.put o.dst cv) w') : o.upon P a next Q (.ok (.enter f vs.toArray) w) := by
  rw [Oper.upon_enter]
  refine (hs S G w vs hS hr).mono ?_
  rintro e w' ⟨v, G', k, S', rfl, hk, hSn, hSH, hE, hS', hR, hlv⟩
  obtain ⟨r1, r2, r3, r4⟩ := ren_all hS hid hn hk hSn hSH hE hS' hR hlv
  exact hg v w' _ _ _ hK r1 r2 r3 r4

theorem run_callFunc {f : Nat} (hc : callable P f = true) (args : Array Value) (w : World) : (callFunc f args).run P w = .ok (.enter f args) w := by
  unfold callable at hc
  unfold callFunc
  split at hc
  · rename_i fn hf
    simp only [Bool.and_eq_true, bne_iff_ne, ne_eq] at hc
    have h2 : fn.body ≠ none := by
      intro hb
      rw [hb] at hc; simp at hc
    simp [hf, hc.1, h2]
  · cases hc

theorem callA_free {m : CMode} {f : Nat} {args : List AV} (h : callA P m f args S K) : ∃ r S', ASpec P f args S r S' ∧ K r S' := by
  cases m with
  | free => obtain ⟨r, S', h1, _, h2⟩ := h; exact ⟨r, S', h1, h2⟩
  | same => obtain ⟨r, h1, h2⟩ := h; exact ⟨r, S, h1, h2⟩
  | univ => obtain ⟨r, h1, h2⟩ := h; exact ⟨r, S, h1 S, h2⟩

theorem opd_cases {x : Operand} {y : Opd} (h : opd x = some y) (a : Act) (F : Nat → AV) (hF : FRep G w F a) : Rep G w (evalO F y) (a.eval x) := opd_sound h hF

theorem map_arr (c : Array Operand) (f : Operand → Value) : c.map f = (c.toList.map f).toArray := Array.ext' (by simp)

theorem fillA_length : ∀ (ps : List (Nat × Nat × AV)) (z cs : List AV), fillA z ps = some cs → cs.length = z.length
  | [], z, cs, h => by simp only [fillA, Option.some.injEq] at h; rw [h]
  | (off, size, v) :: ps, z, cs, h => by
    simp only [fillA] at h
    split at h
    · cases h
    · split at h
      · rename_i hh; rw [fillA_length ps _ _ h]; simp; omega
      · cases h

theorem ok_bslice' (hS : Sim G S w) {t e : TypeId} {s : Nat} {len : Nat} {parts : Array (Nat × Operand)} {a : Act} {ps : List (Nat × Nat × AV)} {z cs : List AV} {l : List PV} (hu : P.underlying t = some (.slice e)) (hz : zeroCellsOf P e = some z) (hs : sizeT P e = some s)
    (hpos : 0 < s) (hlim : len * s ≤ 2 ^ 24) (p1 : (parts.toList.map fun q => (q.1, a.eval q.2)).length = ps.length)
    (p2 : ∀ (j : Nat) q p, (parts.toList.map fun q => (q.1, a.eval q.2))[j]? = some q → ps[j]? = some p → some (q.1 * s, s) = some (p.1, p.2.1) ∧ Rep G w p.2.2 q.2)
    (hcs : fillA (List.replicate len z).flatten ps = some cs) (hl : toPVs cs = some l) (h : K (.sl false (chunk s len l) .full) S) :
    OkRun G S w id K ((Instr.buildSlice t len (parts.map fun q => (q.1, a.eval q.2))).run P w) := by
  obtain ⟨i, zv, hi, hiz, hsz, hrun, hzr, hz1, hzl⟩ := zeroCellsOf_sound hz w
  have hss : s = i.size := by simp only [sizeT, hi, Option.map_some, Option.some.injEq] at hs; exact hs.symm
  subst hss
  have e1 : (parts.map fun q => (q.1, a.eval q.2)).toList = parts.toList.map fun q => (q.1, a.eval q.2) := Array.toList_map
  have hlen : l.length = len * i.size := ?_
  · have q1 := @ok_bslice P G S w id K hS t e i zv len (parts.map fun q => (q.1, a.eval q.2)) ps z cs l hu hi hrun hsz hpos hlim
    have q2 := q1 (hzr G w) hz1
    have q3 := q2 (by rw [e1]; exact p1)
    have q4 := q3 (by rw [e1]; exact p2)
    have q5 := q4 hcs hl hlen
    exact q5 h
  have hzz := RepL.replicate (hzr G w) len
  obtain ⟨cells, f1, f2, f3⟩ := fill_sound (place := fun j => some (j * i.size, i.size)) (parts := parts.toList.map fun q => (q.1, a.eval q.2)) (cells := (List.replicate len zv.cells.toList).flatten.toArray) p1 p2 (by simpa using hzz)
    (by simp only [List.mem_flatten, List.mem_replicate]; rintro v ⟨l, ⟨_, rfl⟩, hv⟩; exact hz1 v hv) hcs
  rw [(toPVs_sound hl f2).1, ← f2.1, fillA_length _ _ _ hcs]
  simp [List.length_flatten, List.map_replicate, List.sum_replicate_nat, hzl]

set_option maxHeartbeats 2000000 in
theorem act_sound (o : Oper) (ao : AOp) (hc : compOp P o.op = some ao) {F : Nat → AV} {a : Act} (hS : Sim G S w) (hF : FRep G w F a) (hid : G.live id = false) (hn : id < S.n) {m : CMode} (h : act P m ao (evalO F) S id K)
    {next : Act → World → Prop} {Q : Exit → Act → World → Prop} (hg : Goes G S w id K fun cv w' => next (a.put o.dst cv) w') : o.wp P a w next Q := by
  unfold Oper.wp
  cases ho : o.op <;> rw [ho] at hc <;> simp only [compOp, reduceCtorEq] at hc <;> simp only [execOp, ho]
  case move x =>
    simp only [Option.map_eq_some_iff] at hc
    obtain ⟨y, h1, rfl⟩ := hc
    exact upon_value hS h (opd_sound h1 hF) hg
  case assign x =>
    simp only [Option.map_eq_some_iff] at hc
    obtain ⟨y, h1, rfl⟩ := hc
    exact upon_value hS h (opd_sound h1 hF) hg
  case pick c x y =>
    split at hc
    · rename_i c' x' y' e1 e2 e3
      simp only [Option.some.injEq] at hc
      subst hc
      simp only [act] at h
      split at h
      · rename_i q heq
        have hcv := opd_sound e1 hF
        rw [heq] at hcv
        have hx := opd_sound e2 hF
        have hy := opd_sound e3 hF
        rw [rep_bool hcv]
        cases q
        · simp only [Bool.false_eq_true, if_false] at h
          simp only [asBool, Sem.run_bind, Sem.run_pure, Result.andThen_ok, Bool.false_eq_true, if_false]
          exact upon_value hS h hy hg
        · simp only [if_true] at h
          simp only [asBool, Sem.run_bind, Sem.run_pure, Result.andThen_ok, if_true]
          exact upon_value hS h hx hg
      · exact h.elim
    · cases hc
  case alloc e =>
    simp only [Option.map_eq_some_iff] at hc
    obtain ⟨z, h1, rfl⟩ := hc
    exact upon_run (ok_alloc hS hid hn h1 h) hg
  case box e x =>
    simp only [Option.map_eq_some_iff] at hc
    obtain ⟨y, h1, rfl⟩ := hc
    simp only [act] at h
    split at h
    · rename_i cs hcs
      exact upon_run (ok_box hS hid hn e hcs (opd_sound h1 hF) h) hg
    · exact h.elim
  case build t parts =>
    split at hc
    · rename_i z fs hz hu
      split at hc
      · rename_i pl hpl
        simp only [Option.map_eq_some_iff] at hc
        obtain ⟨ps, hps, rfl⟩ := hc
        simp only [act] at h
        split at h
        · rename_i cs hcs
          obtain ⟨i, zv, hi, hiz, hsz, hrun, hzr, hz1, hzl⟩ := zeroCellsOf_sound hz w
          obtain ⟨p1, p2⟩ := partsOf_sound hps hF
          obtain ⟨cells, f1, f2, f3⟩ := fill_sound (parts := parts.toList.map fun q => (q.1, a.eval q.2)) (cells := zv.cells) p1 p2 (hzr G w) hz1 hcs
          refine upon_run ?_ hg
          rw [run_build_struct hu hrun hpl (by simpa using f1)]
          refine okSame hS h ?_
          exact .agg (vs := cells.toList) f2.1 f2.2 f3
        · exact h.elim
      · cases hc
    · rename_i z n e hz hu
      split at hc
      · rename_i s hs
        simp only [Option.map_eq_some_iff] at hc
        obtain ⟨ps, hps, rfl⟩ := hc
        simp only [act] at h
        split at h
        · rename_i cs hcs
          obtain ⟨i, zv, hi, hiz, hsz, hrun, hzr, hz1, hzl⟩ := zeroCellsOf_sound hz w
          obtain ⟨p1, p2⟩ := partsOf_sound hps hF
          obtain ⟨cells, f1, f2, f3⟩ := fill_sound (place := fun i => some (i * s, s)) (parts := parts.toList.map fun q => (q.1, a.eval q.2)) (cells := zv.cells) p1 p2 (hzr G w) hz1 hcs
          refine upon_run ?_ hg
          rw [run_build_array hu hrun hs (by simpa using f1)]
          refine okSame hS h ?_
          exact .agg (vs := cells.toList) f2.1 f2.2 f3
        · exact h.elim
      · cases hc
    · cases hc
  case buildSlice t len parts =>
    split at hc
    · rename_i e hu
      split at hc
      · rename_i z s hz hs
        split at hc
        · rename_i hlim
          simp only [Option.map_eq_some_iff] at hc
          obtain ⟨ps, hps, rfl⟩ := hc
          simp only [act] at h
          split at h
          · rename_i cs hcs
            split at h
            · rename_i l hl
              obtain ⟨p1, p2⟩ := partsOf_sound hps hF
              exact upon_run (ok_bslice' hS hu hz hs hlim.2 hlim.1 p1 p2 hcs hl h) hg
            · exact h.elim
          · exact h.elim
        · cases hc
      · cases hc
    · cases hc
  case load t x =>
    split at hc
    · rename_i n y h1 h2 h3
      simp only [Option.some.injEq] at hc
      subst hc
      have hr := opd_sound h3 hF
      simp only [act] at h
      refine upon_run ?_ hg
      split at h
      · rename_i k o heq
        rw [heq] at hr
        rw [(rep_ptr hr).1]
        split at h
        · rename_i cs hk
          exact ok_loadA_ptr hS h1 h2 hk h.1 h.2
        · exact h.elim
      · rename_i cs o heq
        rw [heq] at hr
        exact ok_loadA_ref hS h1 h2 hr h.1 h.2
      · exact h.elim
    · rename_i y h1 h3
      simp only [Option.some.injEq] at hc
      subst hc
      have hr := opd_sound h3 hF
      simp only [act] at h
      refine upon_run ?_ hg
      split at h
      · rename_i k o heq
        rw [heq] at hr
        rw [(rep_ptr hr).1]
        split at h
        · rename_i cs hk
          split at h
          · rename_i c hcc
            exact ok_load1_ptr hS h1 hk hcc h
          · exact h.elim
        · exact h.elim
      · rename_i cs o heq
        rw [heq] at hr
        split at h
        · rename_i c hcc
          exact ok_load1_ref hS h1 hr hcc h
        · exact h.elim
      · exact h.elim
    · cases hc
  case store t x y =>
    split at hc
    · rename_i n x' y' h1 h2 h3
      simp only [Option.some.injEq] at hc
      subst hc
      have hx := opd_sound h2 hF
      have hy := opd_sound h3 hF
      simp only [act] at h
      split at h
      · rename_i k o heq
        rw [heq] at hx
        rw [(rep_ptr hx).1]
        split at h
        · rename_i cs hk
          split at h
          · rename_i ds hds
            obtain ⟨w', hr, he, hs⟩ := ok_store hS h1 hk hds hy h.1 h.2.1
            have : (do Instr.storeAt t (.pointer (some ⟨G.ptr k, o, none⟩)) (a.eval y); pure Next.skip : Sem Next).run P w = .ok .skip w' := by rw [Sem.run_bind, hr]; rfl
            rw [this]
            exact hg undef w' (.tup []) _ G h.2.2 he hs (.tup (vs := []) rfl (by simp)) (fun _ h => .inl h)
          · exact h.elim
        · exact h.elim
      · exact h.elim
    · cases hc
  case binOp op t x y yt =>
    split at hc
    · rename_i x' y' h1 h2
      have hx := opd_sound h1 hF
      have hy := opd_sound h2 hF
      have nilCase : ∀ kd, (∃ d, P.underlying t = some d ∧ kdOk kd d) → compNil kd op x' y' = some ao → OkRun G S w id K ((do eqGuard op t x y (a.eval x) (a.eval y); binOp op t (a.eval x) (a.eval y) : Sem Value).run P w) := by
        intro kd hkd hcn
        unfold compNil at hcn
        split at hcn
        · simp only [Option.some.injEq] at hcn
          subst hcn
          simp only [act] at h
          split at h
          · rename_i b hb
            rw [run_eqNil hb hkd hx hy .eql (.inl rfl) x y]
            exact okSame hS h (.p (.bool _))
          · exact h.elim
        · simp only [Option.some.injEq] at hcn
          subst hcn
          simp only [act] at h
          split at h
          · rename_i b hb
            rw [run_eqNil hb hkd hx hy .neq (.inr rfl) x y]
            exact okSame hS h (.p (.bool _))
          · exact h.elim
        · cases hcn
      refine upon_run ?_ hg
      unfold compBin at hc
      split at hc
      · rename_i q hu
        have ha : ao = .arith op x' y' := by cases op <;> simp_all
        subst ha
        simp only [act] at h
        split at h
        · rename_i k m k' m' e1 e2
          rw [e1] at hx; rw [e2] at hy
          obtain ⟨rfl, h⟩ := h
          split at h
          · rename_i v hv
            rw [rep_int hx, rep_int hy]
            obtain ⟨cv, hr, hrep⟩ := run_arith (P := P) (t := t) hv (x' := x) (y' := y) G w
            rw [hr]
            exact okSame hS h hrep
          · exact h.elim
        · exact h.elim
      · rename_i hu
        split at hc
        · simp only [Option.some.injEq] at hc
          subst hc
          simp only [act] at h
          split at h
          · rename_i p q e1 e2
            rw [e1] at hx; rw [e2] at hy
            rw [rep_bool hx, rep_bool hy, run_eqB hu p q .eql (.inl rfl) x y]
            exact okSame hS h (.p (.bool _))
          · exact h.elim
        · simp only [Option.some.injEq] at hc
          subst hc
          simp only [act] at h
          split at h
          · rename_i p q e1 e2
            rw [e1] at hx; rw [e2] at hy
            rw [rep_bool hx, rep_bool hy, run_eqB hu p q .neq (.inr rfl) x y]
            exact okSame hS h (.p (.bool _))
          · exact h.elim
        · cases hc
      · rename_i fs hu
        split at hc
        · cases hc
        · rename_i hguard
          have hguard' : P.eqGuardType P.depth t = false := by simpa using hguard
          split at hc
          · rename_i L hL
            split at hc
            · rename_i hlen
              simp only [Option.some.injEq] at hc
              subst hc
              simp only [act] at h
              split at h
              · rename_i cs ds e1 e2
                rw [e1] at hx; rw [e2] at hy
                split at h
                · rename_i b hb
                  rw [run_eqA hL (by simp [isAggT, hu]) hguard' hlen hb hx hy .eql (.inl rfl) x y]
                  exact okSame hS h (.p (.bool _))
                · exact h.elim
              · exact h.elim
            · cases hc
          · rename_i L hL
            split at hc
            · rename_i hlen
              simp only [Option.some.injEq] at hc
              subst hc
              simp only [act] at h
              split at h
              · rename_i cs ds e1 e2
                rw [e1] at hx; rw [e2] at hy
                split at h
                · rename_i b hb
                  rw [run_eqA hL (by simp [isAggT, hu]) hguard' hlen hb hx hy .neq (.inr rfl) x y]
                  exact okSame hS h (.p (.bool _))
                · exact h.elim
              · exact h.elim
            · cases hc
          · cases hc
      · rename_i n e hu
        split at hc
        · cases hc
        · rename_i hguard
          have hguard' : P.eqGuardType P.depth t = false := by simpa using hguard
          split at hc
          · rename_i L hL
            split at hc
            · rename_i hlen
              simp only [Option.some.injEq] at hc
              subst hc
              simp only [act] at h
              split at h
              · rename_i cs ds e1 e2
                rw [e1] at hx; rw [e2] at hy
                split at h
                · rename_i b hb
                  rw [run_eqA hL (by simp [isAggT, hu]) hguard' hlen hb hx hy .eql (.inl rfl) x y]
                  exact okSame hS h (.p (.bool _))
                · exact h.elim
              · exact h.elim
            · cases hc
          · rename_i L hL
            split at hc
            · rename_i hlen
              simp only [Option.some.injEq] at hc
              subst hc
              simp only [act] at h
              split at h
              · rename_i cs ds e1 e2
                rw [e1] at hx; rw [e2] at hy
                split at h
                · rename_i b hb
                  rw [run_eqA hL (by simp [isAggT, hu]) hguard' hlen hb hx hy .neq (.inr rfl) x y]
                  exact okSame hS h (.p (.bool _))
                · exact h.elim
              · exact h.elim
            · cases hc
          · cases hc
      · rename_i e hu; exact nilCase 0 ⟨_, hu, trivial⟩ hc
      · rename_i e hu; exact nilCase 1 ⟨_, hu, trivial⟩ hc
      · rename_i e1 e2 hu; exact nilCase 2 ⟨_, hu, trivial⟩ hc
      · rename_i e1 e2 e3 hu; exact nilCase 3 ⟨_, hu, trivial⟩ hc
      · cases hc
    · cases hc
  case unOp op t x =>
    cases op <;> simp only [reduceCtorEq, Option.map_eq_some_iff] at hc
    · obtain ⟨y, h1, rfl⟩ := hc
      have hx := opd_sound h1 hF
      simp only [act] at h
      split at h
      · rename_i k n heq
        rw [heq] at hx
        refine upon_run ?_ hg
        rw [rep_int hx, run_unary_neg]
        exact okSame hS h (.p (.int _ _))
      · exact h.elim
    · obtain ⟨y, h1, rfl⟩ := hc
      have hx := opd_sound h1 hF
      simp only [act] at h
      split at h
      · rename_i b heq
        rw [heq] at hx
        refine upon_run ?_ hg
        rw [rep_bool hx, run_unary_not]
        exact okSame hS h (.p (.bool _))
      · exact h.elim
  case makeFunc fn first caps =>
    cases fn <;> simp only [reduceCtorEq] at hc
    rename_i f
    split at hc
    · rename_i hfirst
      simp only [Option.map_eq_some_iff] at hc
      obtain ⟨cs, h1, rfl⟩ := hc
      have hr := opds_sound h1 hF
      have hf : first = #[] := by simpa using hfirst
      subst hf
      refine upon_run ?_ hg
      have : (Instr.makeFunc (.func f) ((#[] : Array Operand).map a.eval) (caps.map a.eval)).run P w = .ok (.func (.func f) #[] (caps.toList.map a.eval).toArray) w := by
        have e : caps.map a.eval = (caps.toList.map a.eval).toArray := map_arr caps a.eval
        simp only [Instr.makeFunc, Sem.run_pure, e, List.map_toArray, List.map_nil]
      rw [this]
      exact okSame hS h (.fn hr.1 hr.2)
    · cases hc
  case slice t x lo hi mx =>
    split at hc
    · rename_i e hu
      split at hc
      · rename_i s y l' h' m' h1 h2 h3 h4 h5
        simp only [Option.some.injEq] at hc
        subst hc
        have hx := opd_sound h2 hF
        simp only [act] at h
        split at h
        · rename_i nil xs tk hsl
          obtain ⟨hw, h⟩ := h
          split at h
          · rename_i l hh bl bh
            obtain ⟨q0, q1, q2, hm⟩ := h
            refine upon_run ?_ hg
            refine ok_slice (l := l) (h := hh) hS hu h1 hsl hx hw ?_ ?_ q0 q1 q2 ?_
            · rcases opdO_sound h3 hF with ⟨rfl, rfl⟩ | ⟨x', y', rfl, rfl, hr'⟩
              · simp only [Option.map_none, boundA, Option.some.injEq] at bl; exact .inl ⟨rfl, by simpa using bl.symm⟩
              · obtain ⟨k, hv⟩ := boundA_some bl hr'; exact .inr ⟨k, by simp [hv]⟩
            · rcases opdO_sound h4 hF with ⟨rfl, rfl⟩ | ⟨x', y', rfl, rfl, hr'⟩
              · simp only [Option.map_none, boundA, Option.some.injEq] at bh; exact .inl ⟨rfl, bh.symm⟩
              · obtain ⟨k, hv⟩ := boundA_some bh hr'; exact .inr ⟨k, by simp [hv]⟩
            · have hsome : (hi.map a.eval).isNone = h'.isNone := by
                rcases opdO_sound h4 hF with ⟨rfl, rfl⟩ | ⟨x', y', rfl, rfl, _⟩ <;> rfl
              rcases opdO_sound h5 hF with ⟨rfl, rfl⟩ | ⟨x', y', rfl, rfl, hr'⟩
              · exact .inl ⟨rfl, by rw [hsome]; exact hm⟩
              · obtain ⟨m1, m2, m3⟩ := hm
                obtain ⟨k, hv⟩ := boundA_some m2 hr'
                refine .inr ⟨?_, ⟨k, by simp [hv]⟩, m3⟩
                rcases opdO_sound h4 hF with ⟨rfl, rfl⟩ | ⟨x'', y'', rfl, rfl, _⟩
                · cases m1
                · rfl
          · exact h.elim
        · exact h.elim
      · cases hc
    · cases hc
  case fieldAddr s x f =>
    split at hc
    · rename_i fs hu
      split at hc
      · rename_i fd hfd
        split at hc
        · rename_i n y h1 h2
          split at hc
          · cases hc
          · rename_i hn0
            simp only [Option.some.injEq] at hc
            subst hc
            have hx := opd_sound h2 hF
            simp only [act] at h
            refine upon_run ?_ hg
            split at h
            · rename_i k o heq
              rw [heq] at hx
              obtain ⟨e1, e2⟩ := rep_ptr hx
              rw [e1, run_fieldAt hu hfd h1 hn0]
              exact okSame hS h (.ptr e2)
            · rename_i cs o heq
              rw [heq] at hx
              obtain ⟨b, off, e1, e2⟩ := rep_ref hx
              rw [e1, run_fieldAt hu hfd h1 hn0, Nat.add_assoc]
              exact okSame hS h (rep_ref_mk e2)
            · exact h.elim
        · cases hc
      · cases hc
    · cases hc
  case indexAddr t x i =>
    split at hc
    · rename_i n e hu
      split at hc
      · rename_i s y j h1 h2 h3
        simp only [Option.some.injEq] at hc
        subst hc
        have hx := opd_sound h2 hF
        have hi := opd_sound h3 hF
        simp only [act] at h
        refine upon_run ?_ hg
        split at h
        · rename_i k m heq
          rw [heq] at hi
          obtain ⟨q0, q1, h⟩ := h
          rw [rep_int hi]
          split at h
          · rename_i k' o heq'
            rw [heq'] at hx
            obtain ⟨e1, e2⟩ := rep_ptr hx
            rw [e1, run_indexAt_array hu h1 q0 q1]
            exact okSame hS h (.ptr e2)
          · rename_i cs o heq'
            rw [heq'] at hx
            obtain ⟨b, off, e1, e2⟩ := rep_ref hx
            rw [e1, run_indexAt_array hu h1 q0 q1, Nat.add_assoc]
            exact okSame hS h (rep_ref_mk e2)
          · exact h.elim
        · exact h.elim
      · cases hc
    · rename_i e hu
      split at hc
      · rename_i s y j h1 h2 h3
        simp only [Option.some.injEq] at hc
        subst hc
        have hx := opd_sound h2 hF
        have hi := opd_sound h3 hF
        simp only [act] at h
        refine upon_run ?_ hg
        split at h
        · rename_i nil xs tk k m hsl heq
          rw [heq] at hi
          obtain ⟨q0, h⟩ := h
          rw [rep_int hi]
          split at h
          · rename_i el hel
            exact ok_indexS hS hu h1 hsl hx q0 hel h.1 h.2
          · exact h.elim
        · exact h.elim
      · cases hc
    · cases hc
  case extract x i =>
    simp only [Option.map_eq_some_iff] at hc
    obtain ⟨y, h1, rfl⟩ := hc
    have hx := opd_sound h1 hF
    simp only [act] at h
    split at h
    · rename_i vs heq
      rw [heq] at hx
      obtain ⟨us, e1, e2⟩ := rep_tup hx
      split at h
      · rename_i v hv
        obtain ⟨u, hu, hr⟩ := e2.get i v hv
        refine upon_run ?_ hg
        rw [e1]
        have : (Instr.extract (.tuple us.toArray) i).run P w = .ok u w := by simp [Instr.extract, hu]
        rw [this]
        exact okSame hS h hr
      · exact h.elim
    · exact h.elim
  case call c =>
    unfold compCall at hc
    split at hc
    · rename_i f hf
      split at hc
      · rename_i f' args h1 h2
        split at hc
        · rename_i hcal
          have hx := opd_sound h1 hF
          have hargs := opds_sound h2 hF
          obtain ⟨us, e1, e2⟩ := rep_fn hx
          have hus := e2.nil_inv
          subst hus
          have hrun : (do let d ← resolve a.eval c o.type; invoke d.target d.args : Sem Next).run P w = .ok (.enter f' (c.args.toList.map a.eval).toArray) w := by
            have e : c.args.map a.eval = (c.args.toList.map a.eval).toArray := map_arr c.args a.eval
            simp [resolve, hf, e1, Deferred.ofValue, invoke, run_callFunc hcal, e]
          rw [hrun]
          split at hc
          · simp only [Option.some.injEq] at hc
            subst hc
            simp only [act, actM] at h
            obtain ⟨xs, hs, hK⟩ := h
            exact upon_callF hS hid hn hargs hs hK hg
          · simp only [Option.some.injEq] at hc
            subst hc
            obtain ⟨r, S', hs, hK⟩ := callA_free h
            exact upon_call hS hargs hs hK hg
        · cases hc
      · rename_i n args h1 h2
        simp only [Option.some.injEq] at hc
        subst hc
        have hx := opd_sound h1 hF
        have hargs := opds_sound h2 hF
        simp only [act] at h
        cases hfv : F n <;> simp only [evalO, hfv] at h
        rename_i f' caps
        obtain ⟨hcal, h⟩ := h
        obtain ⟨r, S', hs, hK⟩ := callA_free h
        simp only [evalO, hfv] at hx
        obtain ⟨us, e1, e2⟩ := rep_fn hx
        have hrun : (do let d ← resolve a.eval c o.type; invoke d.target d.args : Sem Next).run P w = .ok (.enter f' (c.args.toList.map a.eval ++ us).toArray) w := by
          have e : c.args.map a.eval = (c.args.toList.map a.eval).toArray := map_arr c.args a.eval
          simp [resolve, hf, e1, Deferred.ofValue, invoke, run_callFunc hcal, e]
        rw [hrun]
        exact upon_call hS (hargs.append e2) hs hK hg
      · cases hc
    · cases hc
    · rename_i hf
      split at hc
      · rename_i t x ht hx'
        split at hc
        · rename_i e y hu h1
          simp only [Option.some.injEq] at hc
          subst hc
          have hx := opd_sound h1 hF
          simp only [act] at h
          split at h
          · rename_i nil xs tk hsl
            obtain ⟨rp, _⟩ := rep_sl hsl hx
            obtain ⟨base, cap, hv⟩ : ∃ base cap, a.eval x = .slice base xs.length cap := by
              rcases repP_sl rp with ⟨_, rfl, h'⟩ | ⟨_, b, off, cap, wd, f, sp, h', _⟩
              · exact ⟨none, 0, h'⟩
              · exact ⟨_, cap, h'⟩
            have hct : c.argTypes = #[t] := by apply Array.ext'; simpa using ht
            have hca : c.args = #[x] := by apply Array.ext'; simpa using hx'
            have hrun : (do let d ← resolve a.eval c o.type; invoke d.target d.args : Sem Next).run P w = .ok (.value (.int .i64 xs.length)) w := by
              simp [resolve, hf, invoke, builtin, Builtin.len_, hct, hca, run_underlying hu, hv, goInt]
            rw [hrun]
            exact upon_value hS h (.p (.int _ _)) hg
          · exact h.elim
        · rename_i n e y hu h1
          simp only [Option.some.injEq] at hc
          subst hc
          have hct : c.argTypes = #[t] := by apply Array.ext'; simpa using ht
          have hca : c.args = #[x] := by apply Array.ext'; simpa using hx'
          have hrun : (do let d ← resolve a.eval c o.type; invoke d.target d.args : Sem Next).run P w = .ok (.value (.int .i64 n)) w := by
            simp [resolve, hf, invoke, builtin, Builtin.len_, hct, hca, run_underlying hu, goInt]
          rw [hrun]
          exact upon_value hS h (.p (.int _ _)) hg
        · cases hc
      · cases hc
    · rename_i hf
      split at hc
      · rename_i t u x y ht hx'
        split at hc
        · rename_i e e' hu hu'
          split at hc
          · rename_i i x' y' hi h1 h2
            split at hc
            · rename_i hcond
              obtain ⟨rfl, hpos, hzs, hzc⟩ := hcond
              simp only [Option.some.injEq] at hc
              subst hc
              obtain ⟨z, hz⟩ := Option.isSome_iff_exists.1 hzs
              have hzsize : z.cells.size = i.size := by rw [hz] at hzc; simpa using hzc
              have hx := opd_sound h1 hF
              have hy := opd_sound h2 hF
              simp only [act] at h
              split at h
              · rename_i n1 xs tk n2 ys tk2 hsx hsy
                obtain ⟨rx, rt⟩ := rep_sl hsx hx
                obtain ⟨ry, _⟩ := rep_sl hsy hy
                obtain ⟨q1, q2, q3, q4, h⟩ := h
                have hct : c.argTypes = #[t, u] := by apply Array.ext'; simpa using ht
                have hca : c.args = #[x, y] := by apply Array.ext'; simpa using hx'
                have hrun : (do let d ← resolve a.eval c o.type; invoke d.target d.args : Sem Next).run P w = (do pure (Next.value (← Builtin.append_ #[t, u] o.type #[a.eval x, a.eval y])) : Sem Next).run P w := by
                  simp [resolve, hf, invoke, builtin, hct, hca]
                rw [hrun]
                refine upon_run ?_ hg
                split at h
                · exact h.elim
                · obtain ⟨ba, hba⟩ := rt
                  by_cases hys : ys = []
                  · subst hys
                    simp only [List.isEmpty_nil, Bool.and_true, List.append_nil, List.length_nil, Nat.add_zero] at h
                    exact ok_append_nothing hS hid hn hu hu' hi rx ry ⟨ba, hba⟩ h
                  · have hyl : 0 < ys.length := List.length_pos_iff.2 hys
                    have hemp : ys.isEmpty = false := by simpa using hys
                    rw [hemp, Bool.and_false] at h
                    exact ok_append_more hS hu hu' hi hz hzsize rx ry hba q1 q2 (by omega) q4 q3 (.inl ⟨hid, rfl, hn⟩) h
                · rename_i k
                  obtain ⟨hH, hK⟩ := h
                  obtain ⟨hl, hm1, hm2⟩ := rt
                  obtain ⟨_, hbm, _, hbc, _⟩ := hS.blk k _ hH
                  have hv := hm2 hbm.symm
                  by_cases hfit : xs.length + ys.length ≤ (G.vec k).cap
                  · exact ok_append_fit hS hu hu' hi rx ry q1 q2 hl hH hv hfit hK
                  · have hyl : 0 < ys.length := by omega
                    have hemp : ys.isEmpty = false := by
                      cases ys with
                      | nil => simp at hyl
                      | cons _ _ => rfl
                    rw [hemp, Bool.and_false] at hK
                    exact ok_append_more hS hu hu' hi hz hzsize rx ry hv q1 q2 (by omega) q4 q3 (.inr ⟨hl, by rw [hH]; simp, hbm, hyl⟩) hK
              · exact h.elim
            · cases hc
          · cases hc
        · cases hc
      · cases hc
    · rename_i hf
      split at hc
      · rename_i x xs hxs
        simp only [Option.some.injEq] at hc
        subst hc
        have hr := opds_sound hxs hF
        simp only [act] at h
        split at h
        · rename_i v hv
          obtain ⟨u, us, hus, r1, r2⟩ := hr.uncons
          obtain ⟨cv, h3, h4⟩ := run_minmax (P := P) (w := w) false _ _ _ u us hv r1 r2
          have hrun : (do let d ← resolve a.eval c o.type; invoke d.target d.args : Sem Next).run P w = .ok (.value cv) w := by
            have : (Builtin.min_ c.argTypes o.type (c.args.map a.eval)).run P w = .ok cv w := by
              have hl : (c.args.map a.eval).toList = u :: us := by simpa using hus
              simp only [Builtin.min_, hl]
              simpa using h3
            simp [resolve, hf, invoke, builtin, this]
          rw [hrun]
          exact upon_value hS h h4 hg
        · exact h.elim
      · cases hc
    · rename_i hf
      split at hc
      · rename_i x xs hxs
        simp only [Option.some.injEq] at hc
        subst hc
        have hr := opds_sound hxs hF
        simp only [act] at h
        split at h
        · rename_i v hv
          obtain ⟨u, us, hus, r1, r2⟩ := hr.uncons
          obtain ⟨cv, h3, h4⟩ := run_minmax (P := P) (w := w) true _ _ _ u us hv r1 r2
          have hrun : (do let d ← resolve a.eval c o.type; invoke d.target d.args : Sem Next).run P w = .ok (.value cv) w := by
            have : (Builtin.max_ c.argTypes o.type (c.args.map a.eval)).run P w = .ok cv w := by
              have hl : (c.args.map a.eval).toList = u :: us := by simpa using hus
              simp only [Builtin.max_, hl]
              simpa using h3
            simp [resolve, hf, invoke, builtin, this]
          rw [hrun]
          exact upon_value hS h h4 hg
        · exact h.elim
      · cases hc
    · cases hc

  case makeMap t r =>
    cases r with
    | some y => simp at hc
    | none =>
      simp only [Option.map_eq_some_iff] at hc
      obtain ⟨q, hq, rfl⟩ := hc
      simp only [act, actM] at h
      exact upon_run (ok_mk hS hid hn h) hg
  case lookup t x k ok =>
    cases ok with
    | true => simp at hc
    | false =>
      simp only at hc
      split at hc
      · rename_i q y j h1 h2 h3
        simp only [Option.some.injEq] at hc
        subst hc
        have hx := opd_sound h2 hF
        have hk := opd_sound h3 hF
        simp only [act, actM] at h
        obtain ⟨kk, ks, es, cl, e1, e2, e3, e4, hK⟩ := h
        exact upon_run (ok_look hS h1 hx hk e1 e2 e3 e4 hK) hg
      · cases hc
  case mapEntry t x k =>
    split at hc
    · rename_i q y j h1 h2 h3
      simp only [Option.some.injEq] at hc
      subst hc
      have hx := opd_sound h2 hF
      have hk := opd_sound h3 hF
      simp only [act, actM] at h
      obtain ⟨kk, ks, es, cl, e1, e2, e3, e4, hK⟩ := h
      exact upon_run (ok_ent hS h1 hx hk e1 e2 e3 e4 hK) hg
    · cases hc
  case entryStore t x s v =>
    split at hc
    · rename_i y j u h1 h2 h3
      simp only [Option.some.injEq] at hc
      subst hc
      have hx := opd_sound h1 hF
      have hs := opd_sound h2 hF
      have hv := opd_sound h3 hF
      simp only [act, actM] at h
      obtain ⟨kk, b, es, es', wd, z, cl, e1, e2, e3, e4, hK⟩ := h
      obtain ⟨w', hr, he, hs'⟩ := ok_set (t := t) hS hx hs hv e1 e2 e3 e4
      have : (do Instr.entryStore t (a.eval x) (a.eval s) (a.eval v); pure Next.skip : Sem Next).run P w = .ok .skip w' := by rw [Sem.run_bind, hr]; rfl
      rw [this]
      exact hg undef w' (.tup []) _ G hK he hs' (.tup (vs := []) rfl (by simp)) (fun _ h => .inl h)
    · cases hc
  case range t x =>
    split at hc
    · rename_i kt e y h1 h2
      simp only [Option.some.injEq] at hc
      subst hc
      have hx := opd_sound h2 hF
      simp only [act, actM] at h
      obtain ⟨kk, wd, z, es, cl, e1, e3, hK⟩ := h
      exact upon_run (ok_range hS hid hn h1 hx e1 e3 hK) hg
    · cases hc
  case next x isS =>
    cases isS with
    | true => simp at hc
    | false =>
      simp only [Option.map_eq_some_iff] at hc
      obtain ⟨y, h1, rfl⟩ := hc
      have hx := opd_sound h1 hF
      simp only [act, actM] at h
      split at h
      · obtain ⟨r, k, since, seen, last, wd, z, es, cl, e1, e2, e3, e4, e5, e6⟩ := h
        exact upon_run (ok_next hS hx e1 e2 e3 e4 e5 e6) hg
      · exact h.elim
  case entry x =>
    simp only [Option.map_eq_some_iff] at hc
    obtain ⟨y, h1, rfl⟩ := hc
    have hx := opd_sound h1 hF
    simp only [act, actM] at h
    obtain ⟨r, k, since, seen, b, wd, z, es, cl, e, e1, e2, e3, e4, hK⟩ := h
    exact upon_run (ok_entry hS hx e1 e2 e3 e4 hK) hg

end
end Go.Cw
