/- REGIONS THAT DRAW THEIR ORDER: what is checked once of the text, every order comes to. -/
import Derived.Test.YtinenepjloodcaaCwM
set_option linter.unusedVariables false
set_option linter.unusedSimpArgs false
namespace Go.Cw

def tmpOf : Opd → Option Nat
  | .t n => some n
  | .v _ => none

def looks (o : AOper) : List Nat := o.op.opds.filterMap tmpOf ++ (match o.guard with | some (d, _) => [d] | none => [])

def apartA (a b : AOper) : Bool :=
  (match a.dst with | some d => !(looks b).contains d && b.dst != some d | none => true) && (match b.dst with | some d => !(looks a).contains d | none => true)

def sepReq : AC → AC → Bool
  | .rd, .wr | .wr, .rd => true
  | _, _ => false

def noWrite (as : List AOper) (i x : Nat) : Bool := (as.drop i).all fun o => o.dst != some x

def pairOk (m : CMode) (as : List AOper) (seps : List (Nat × Nat)) (a b : Nat) : Bool :=
  match as[a]?, as[b]? with
  | some oa, some ob => apartA oa ob && acOk (oa.op.ac m) (ob.op.ac m) &&
      (if sepReq (oa.op.ac m) (ob.op.ac m) then (match oa.op.at, ob.op.at with
        | .t x, .t y => seps.contains (x, y) && noWrite as a x && noWrite as b y
        | _, _ => false) else true)
  | _, _ => false

def regCheck (m : CMode) (ops : Array Oper) (as : List AOper) (seps : List (Nat × Nat)) : Bool :=
  let B := Region.before ops
  ops.size == as.length && (match m with | .free => false | _ => true) && (List.range ops.size).all fun i =>
    match ops[i]? with
    | none => false
    | some o => (o.after.all fun e => !Region.binds .any e || decide (e.on < i)) &&
      (List.range i).all fun a => if (B.getD i 0).testBit a then o.after.any (fun e => Region.binds .any e && (e.on == a || (decide (a < e.on) && (B.getD e.on 0).testBit a))) else pairOk m as seps a i

def sepAll (F : Nat → AV) : List (Nat × Nat) → Prop
  | [] => True
  | (x, y) :: r => sepV (F x) (F y) ∧ sepAll F r

theorem sepAll_mem {F : Nat → AV} : ∀ {l : List (Nat × Nat)}, sepAll F l → ∀ x y, (x, y) ∈ l → sepV (F x) (F y)
  | [], _, _, _, h => by cases h
  | (x, y) :: r, hs, x', y', h => by
    rcases List.mem_cons.1 h with h | h
    · cases h; exact hs.1
    · exact sepAll_mem hs.2 x' y' h

def ptF (F : Nat → AV) (S : St) (F' : Nat → AV) (S' : St) : Prop := F = F' ∧ S = S'

section
variable {P : Program} {m : CMode} {F F' : Nat → AV} {S S' : St} {as : List AOper} {n0 : Nat}

theorem step_point (hm : m ≠ .free) {o : AOper} {id : Nat} {K : (Nat → AV) → St → Prop} (h : step P m o id F S K) : ∃ F' S', step P m o id F S (ptF F' S') ∧ K F' S' := by
  simp only [step] at h ⊢
  split at h
  · rename_i q hq
    split at h
    · rename_i hqt
      obtain ⟨v, S', h1, h2⟩ := act_point (.inl hm) h
      refine ⟨_, S', ?_, h2⟩
      rw [if_pos hqt]
      refine act_mono ?_ h1
      rintro v' S2 ⟨rfl, rfl⟩
      exact ⟨rfl, rfl⟩
    · rename_i hqt
      exact ⟨_, S, by rw [if_neg hqt]; exact ⟨rfl, rfl⟩, h⟩
  · exact h.elim

/-- A step, by its parts. -/
theorem step_parts (hm : m ≠ .free) {o : AOper} {id : Nat} (h : step P m o id F S (ptF F' S')) :
    (wantedA o.guard F = some true ∧ ∃ v, act P m o.op (evalO F) S id (pt v S') ∧ F' = updO F o.dst v) ∨ (wantedA o.guard F = some false ∧ S' = S ∧ F' = updO F o.dst (.tup [])) := by
  simp only [step] at h
  split at h
  · rename_i q hq
    cases q
    · simp only [Bool.false_eq_true, if_false] at h
      exact .inr ⟨hq, h.2, h.1⟩
    · simp only [if_true] at h
      obtain ⟨v, S2, h1, h2, h3⟩ := act_point (.inl hm) h
      subst h3
      exact .inl ⟨hq, v, h1, h2⟩
  · exact h.elim

theorem step_of_act {o : AOper} {id : Nat} {v : AV} (hw : wantedA o.guard F = some true) (h : act P m o.op (evalO F) S id (pt v S')) : step P m o id F S (ptF (updO F o.dst v) S') := by
  simp only [step, hw, if_true]
  refine act_mono ?_ h
  rintro v' S2 ⟨rfl, rfl⟩
  exact ⟨rfl, rfl⟩

theorem step_of_skip {o : AOper} {id : Nat} (hw : wantedA o.guard F = some false) : step P m o id F S (ptF (updO F o.dst (.tup [])) S) := by
  simp only [step, hw, Bool.false_eq_true, if_false]
  exact ⟨rfl, rfl⟩

theorem updO_other {dst : Option Nat} {v : AV} {t : Nat} (h : dst ≠ some t) : updO F dst v t = F t := by
  cases dst with
  | none => rfl
  | some d => simp only [updO, upd_apply]; rw [if_neg (fun e => h (by rw [e]))]

theorem updO_comm {d d' : Option Nat} (h : ∀ t, d = some t → d' ≠ some t) (v v' : AV) : updO (updO F d v) d' v' = updO (updO F d' v') d v := by
  cases d with
  | none => rfl
  | some t =>
    cases d' with
    | none => rfl
    | some t' =>
      have hne : t ≠ t' := fun e => h t rfl (by rw [e])
      funext i
      simp only [updO, upd_apply]
      by_cases h1 : i = t <;> by_cases h2 : i = t' <;> simp_all

theorem apart_spec {a b : AOper} (h : apartA a b = true) : (∀ d, a.dst = some d → d ∉ looks b ∧ b.dst ≠ some d) ∧ (∀ d, b.dst = some d → d ∉ looks a) := by
  simp only [apartA, Bool.and_eq_true] at h
  refine ⟨fun d e => ?_, fun d e => ?_⟩
  · have := h.1; rw [e] at this; simpa using this
  · have := h.2; rw [e] at this; simpa using this

theorem evalO_looks {o : AOper} {F F' : Nat → AV} (h : ∀ t ∈ looks o, F t = F' t) : ∀ x ∈ o.op.opds, evalO F x = evalO F' x := by
  intro x hx
  cases x with
  | v a => rfl
  | t n => exact h n (List.mem_append_left _ (List.mem_filterMap.2 ⟨.t n, hx, rfl⟩))

theorem wantedA_looks {o : AOper} {F F' : Nat → AV} (h : ∀ t ∈ looks o, F t = F' t) : wantedA o.guard F = wantedA o.guard F' := by
  unfold wantedA
  cases hg : o.guard with
  | none => rfl
  | some g =>
    obtain ⟨d, w⟩ := g
    have : F d = F' d := h d (List.mem_append_right _ (by simp [hg]))
    simp only [this]

theorem actM_fresh {o : MOp} {ρ : Opd → AV} {id : Nat} {v : AV} (hm : m ≠ .free) (h : actM P m o ρ S id (pt v S')) {k : Nat} (hk : k ≠ id) (hn : S.H k = none) : S'.H k = none := by
  have aux : ∀ {k' : Nat} {b : Blk} {b' : Blk}, S.H k' = some b → (S.put k' b').H k = none := fun {k' b b'} e => by
    have : k ≠ k' := fun e' => by subst e'; rw [hn] at e; cases e
    simp [this, hn]
  cases o <;> simp only [actM] at h
  case mk wd z => rw [h.2]; simp [hk, hn]
  case look wd z x key =>
    obtain ⟨k', ks, es, cl, e1, e2, e3, e4, e5, e6⟩ := h
    rw [e6]; exact hn
  case ent wd z x key =>
    obtain ⟨k', ks, es, cl, e1, e2, e3, e4, e5, e6⟩ := h
    rw [e6]; exact aux e3
  case set x st w =>
    obtain ⟨k', b, es, es', wd, z, cl, e1, e2, e3, e4, e5, e6⟩ := h
    rw [e6]; exact aux e3
  case range x =>
    obtain ⟨k', wd, z, es, cl, e1, e2, e5, e6⟩ := h
    rw [e6]; simp [hk, hn]
  case entry x =>
    obtain ⟨r, k', since, seen, b, wd, z, es, cl, e, e1, e2, e3, e4, e5, e6⟩ := h
    rw [e6]; exact hn
  case callF f sz args =>
    obtain ⟨xs, h1, h2, h3⟩ := h
    rw [h3]; simp [hk, hn]

theorem act_fresh {o : AOp} {ρ : Opd → AV} {id : Nat} {v : AV} (hm : m ≠ .free) (h : act P m o ρ S id (pt v S')) {k : Nat} (hk : k ≠ id) (hn : S.H k = none) : S'.H k = none := by
  by_cases hmp : ∃ q, o = .mp q
  · obtain ⟨q, rfl⟩ := hmp
    exact actM_fresh hm h hk hn
  cases hp : o.ac m
  case mrd | ment | wild => cases o <;> (try (cases m <;> simp only [AOp.ac, reduceCtorEq] at hp; done)); rename_i q; exact absurd ⟨q, rfl⟩ hmp
  case pure => obtain ⟨e, _⟩ := act_quiet hm (.inl hp) h; rw [e]; exact hn
  case rd => obtain ⟨e, _⟩ := act_quiet hm (.inr (.inl hp)) h; rw [e]; exact hn
  case call => obtain ⟨e, _⟩ := act_quiet hm (.inr (.inr hp)) h; rw [e]; exact hn
  case al => obtain ⟨b, e, _⟩ := act_al hp h; rw [e]; simp [hk, hn]
  case ap =>
    obtain ⟨k', q, sz, e, h2⟩ := act_ap hp h
    rw [e]
    have : k ≠ k' := fun e' => by
      subst e'
      rcases h2 with ⟨e2, _⟩ | ⟨mm, hmm, _⟩
      · exact hk e2
      · rw [hn] at hmm; cases hmm
    simp [this, hn]
  case wr =>
    obtain ⟨k', cs, cs', _, hcs, e, _⟩ := act_wr hp h
    rw [e]
    have : k ≠ k' := fun e' => by subst e'; rw [hn] at hcs; cases hcs
    simp [this, hn]

theorem step_fresh {o : AOper} {id : Nat} (hm : m ≠ .free) (h : step P m o id F S (ptF F' S')) {k : Nat} (hk : k ≠ id) (hn : S.H k = none) : S'.H k = none := by
  rcases step_parts hm h with ⟨_, v, h1, _⟩ | ⟨_, e, _⟩
  · exact act_fresh hm h1 hk hn
  · rw [e]; exact hn

theorem step_keep (hm : m ≠ .free) {o : AOper} {id : Nat} (h : step P m o id F S (ptF F' S')) {t : Nat} (ht : o.dst ≠ some t) : F' t = F t := by
  rcases step_parts hm h with ⟨_, v, _, e⟩ | ⟨_, _, e⟩ <;> rw [e] <;> exact updO_other ht

/-- Two steps change places. -/
theorem step_swap {oa ob : AOper} {ida idb : Nat} {F1 F2 : Nat → AV} {S1 S2 : St} (hm : m ≠ .free) (hid : ida ≠ idb) (fa : S.H ida = none) (fb : S.H idb = none) (hap : apartA oa ob = true)
    (hok : acOk (oa.op.ac m) (ob.op.ac m) = true) (hsep : sepOf (oa.op.ac m) (ob.op.ac m) (evalO F oa.op.at) (evalO F ob.op.at))
    (ha : step P m oa ida F S (ptF F1 S1)) (hb : step P m ob idb F1 S1 (ptF F2 S2)) : ∃ F1' S1', step P m ob idb F S (ptF F1' S1') ∧ step P m oa ida F1' S1' (ptF F2 S2) := by
  obtain ⟨h1, h2⟩ := apart_spec hap
  have hdd : ∀ t, oa.dst = some t → ob.dst ≠ some t := fun t e => (h1 t e).2
  have lookB : ∀ v, ∀ t ∈ looks ob, updO F oa.dst v t = F t := fun v t ht => updO_other (fun e => (h1 t e).1 ht)
  have lookA : ∀ v, ∀ t ∈ looks oa, updO F ob.dst v t = F t := fun v t ht => updO_other (fun e => h2 t e ht)
  rcases step_parts hm ha with ⟨wa, va, aa, ea⟩ | ⟨wa, ea, ea'⟩
  · subst ea
    rcases step_parts hm hb with ⟨wb, vb, bb, eb⟩ | ⟨wb, eb, eb'⟩
    · subst eb
      rw [wantedA_looks (lookB va)] at wb
      rw [act_congr (evalO_looks (lookB va))] at bb
      obtain ⟨S1', b1, b2⟩ := act_swap hm hid fa fb hok hsep aa bb
      refine ⟨updO F ob.dst vb, S1', step_of_act wb b1, ?_⟩
      rw [updO_comm hdd]
      refine step_of_act (by rw [wantedA_looks (lookA vb)]; exact wa) ?_
      rw [act_congr (evalO_looks (lookA vb))]
      exact b2
    · subst eb; subst eb'
      rw [wantedA_looks (lookB va)] at wb
      refine ⟨updO F ob.dst (.tup []), S, step_of_skip wb, ?_⟩
      rw [updO_comm hdd]
      refine step_of_act (by rw [wantedA_looks (lookA _)]; exact wa) ?_
      rw [act_congr (evalO_looks (lookA _))]
      exact aa
  · subst ea; subst ea'
    rcases step_parts hm hb with ⟨wb, vb, bb, eb⟩ | ⟨wb, eb, eb'⟩
    · subst eb
      rw [wantedA_looks (lookB _)] at wb
      rw [act_congr (evalO_looks (lookB _))] at bb
      refine ⟨updO F ob.dst vb, S2, step_of_act wb bb, ?_⟩
      rw [updO_comm hdd]
      exact step_of_skip (by rw [wantedA_looks (lookA _)]; exact wa)
    · subst eb; subst eb'
      rw [wantedA_looks (lookB _)] at wb
      refine ⟨updO F ob.dst (.tup []), _, step_of_skip wb, ?_⟩
      rw [updO_comm hdd]
      exact step_of_skip (by rw [wantedA_looks (lookA _)]; exact wa)

/-! ### Runs -/

def Runs (P : Program) (m : CMode) (as : List AOper) (n0 : Nat) : List Nat → (Nat → AV) → St → (Nat → AV) → St → Prop
  | [], F, S, F', S' => F' = F ∧ S' = S
  | i :: l, F, S, F', S' => ∃ o F1 S1, as[i]? = some o ∧ step P m o (n0 + i) F S (ptF F1 S1) ∧ Runs P m as n0 l F1 S1 F' S'

theorem Runs.keep (hm : m ≠ .free) : ∀ {l : List Nat} {F F' : Nat → AV} {S S' : St}, Runs P m as n0 l F S F' S' → ∀ {t : Nat}, (∀ i ∈ l, ∀ o, as[i]? = some o → o.dst ≠ some t) → F' t = F t
  | [], _, _, _, _, h, _, _ => by rw [h.1]
  | i :: l, _, _, _, _, ⟨o, F1, S1, h1, h2, h3⟩, t, ht => by
    rw [Runs.keep hm h3 (fun j hj => ht j (List.mem_cons_of_mem _ hj)), step_keep hm h2 (ht i (by simp) o h1)]

structure Indep (m : CMode) (as : List AOper) (seps : List (Nat × Nat)) (a b : Nat) : Prop where
  ok : pairOk m as seps a b = true

theorem noWrite_spec {i x : Nat} (h : noWrite as i x = true) {j : Nat} (hj : i ≤ j) {o : AOper} (ho : as[j]? = some o) : o.dst ≠ some x := by
  have hm : o ∈ as.drop i := by
    refine List.mem_of_getElem? (i := j - i) ?_
    rw [List.getElem?_drop, show i + (j - i) = j by omega]
    exact ho
  have := List.all_eq_true.1 h o hm
  simpa using this

/-- One comes ahead of others that have nothing to do with it. -/
theorem Runs.move {seps : List (Nat × Nat)} (hm : m ≠ .free) {b : Nat} : ∀ {A l : List Nat} {F F' : Nat → AV} {S S' : St}, Runs P m as n0 (A ++ b :: l) F S F' S' → (∀ a ∈ A, a < b ∧ pairOk m as seps a b = true) →
    (A ++ b :: l).Pairwise (· < ·) → (∀ j ∈ A ++ b :: l, S.H (n0 + j) = none) → sepAll F' seps → (∀ j ∈ A, ∀ o ob, as[j]? = some o → as[b]? = some ob → ∀ y, ob.op.at = .t y → o.dst ≠ some y) → Runs P m as n0 (b :: (A ++ l)) F S F' S'
  | [], l, _, _, _, _, h, _, _, _, _, _ => h
  | a :: A, l, F, F', S, S', ⟨oa, F1, S1, h1, h2, h3⟩, hA, hp, hf, hs, hy => by
    simp only [List.cons_append, List.pairwise_cons] at hp
    have hlt : ∀ j ∈ A ++ b :: l, a < j := hp.1
    have ih := Runs.move hm h3 (fun a' ha' => hA a' (by simp [ha'])) hp.2 (fun j hj => step_fresh hm h2 (by have := hlt j hj; omega) (hf j (by simp only [List.cons_append, List.mem_cons]; exact .inr hj))) hs
      (fun j hj => hy j (by simp [hj]))
    obtain ⟨ob, F2, S2, g1, g2, g3⟩ := ih
    obtain ⟨hab, hok⟩ := hA a (by simp)
    unfold pairOk at hok
    rw [h1, g1] at hok
    simp only [Bool.and_eq_true] at hok
    have hsep : sepOf (oa.op.ac m) (ob.op.ac m) (evalO F oa.op.at) (evalO F ob.op.at) := by
      by_cases hr : sepReq (oa.op.ac m) (ob.op.ac m) = true
      · have h4 := hok.2
        rw [if_pos hr] at h4
        split at h4
        · rename_i x y ex ey
          simp only [Bool.and_eq_true, List.contains_iff_mem] at h4
          obtain ⟨⟨k1, k2⟩, k3⟩ := h4
          have hfin := sepAll_mem hs x y k1
          have ex' : F' x = F x := by
            have r1 : F' x = F1 x := Runs.keep hm h3 (fun j hj o ho => noWrite_spec k2 (Nat.le_of_lt (hlt j hj)) ho)
            rw [r1, step_keep hm h2 (noWrite_spec k2 (Nat.le_refl _) h1)]
          have ey' : F' y = F y := by
            have r1 : F' y = F1 y := Runs.keep hm h3 (fun j hj o ho => by
              have hj' : j ∈ A ++ b :: l := hj
              rw [List.mem_append, List.mem_cons] at hj'
              rcases hj' with hj | rfl | hj
              · exact hy j (by simp [hj]) o ob ho g1 y ey
              · exact noWrite_spec k3 (Nat.le_refl _) ho
              · have : b < j := by
                  have := (List.pairwise_append.1 hp.2).2.1
                  exact (List.pairwise_cons.1 this).1 j hj
                exact noWrite_spec k3 (Nat.le_of_lt this) ho)
            rw [r1, step_keep hm h2 (hy a (by simp) oa ob h1 g1 y ey)]
          rw [ex', ey'] at hfin
          rw [ex, ey]
          cases hca : oa.op.ac m <;> cases hcb : ob.op.ac m <;> simp [hca, hcb, sepReq] at hr <;> exact hfin
        · cases h4
      · revert hr
        cases oa.op.ac m <;> cases ob.op.ac m <;> simp [sepReq, sepOf]
    obtain ⟨F1', S1', k1, k2⟩ := step_swap hm (by omega) (hf a (by simp)) (hf b (by simp)) hok.1.1 hok.1.2 hsep h2 g2
    exact ⟨ob, F1', S1', g1, k1, oa, F2, S2, h1, k2, g3⟩

theorem runs_of_aops (hm : m ≠ .free) {K : (Nat → AV) → St → Prop} : ∀ (l : List AOper) (i : Nat) (F : Nat → AV) (S : St), (∀ j, l[j]? = as[i + j]?) → aops P m l (n0 + i) F S K → ∃ F' S', Runs P m as n0 (List.range' i l.length) F S F' S' ∧ K F' S'
  | [], i, F, S, _, h => ⟨F, S, ⟨rfl, rfl⟩, h⟩
  | o :: l, i, F, S, hl, h => by
    simp only [aops] at h
    obtain ⟨F1, S1, h1, h2⟩ := step_point hm h
    obtain ⟨F', S', h3, h4⟩ := runs_of_aops hm l (i + 1) F1 S1 (fun j => by have := hl (j + 1); simpa [Nat.add_assoc, Nat.add_comm 1 j] using this) h2
    exact ⟨F', S', ⟨o, F1, S1, by have := hl 0; simpa using this.symm, h1, h3⟩, h4⟩

/-! ### Any order -/

theorem compOpers_get : ∀ {nt : Nat} {ops : Array Oper} {os : List Oper} {as : List AOper}, compOpers P nt ops os = some as → as.length = os.length ∧ ∀ (i : Nat) o, os[i]? = some o → ∃ a, as[i]? = some a ∧ compOper P nt ops o = some a
  | _, _, [], as, h => by
    simp only [compOpers, Option.some.injEq] at h
    subst h
    exact ⟨rfl, by simp⟩
  | nt, ops, o :: os, as, h => by
    simp only [compOpers] at h
    split at h
    · rename_i a as' h1 h2
      simp only [Option.some.injEq] at h
      subst h
      obtain ⟨e1, e2⟩ := compOpers_get h2
      refine ⟨by simp [e1], fun i o' ho => ?_⟩
      cases i with
      | zero => simp at ho; subst ho; exact ⟨a, rfl, h1⟩
      | succ i => simp at ho; obtain ⟨a', g1, g2⟩ := e2 i o' ho; exact ⟨a', by simpa using g1, g2⟩
    · cases h

def rest (n : Nat) (listed : Array Bool) : List Nat := (List.range n).filter fun i => !listed.getD i true

theorem mem_rest {n : Nat} {listed : Array Bool} {i : Nat} : i ∈ rest n listed ↔ i < n ∧ listed.getD i true = false := by
  simp [rest]

theorem rest_sorted (n : Nat) (listed : Array Bool) : (rest n listed).Pairwise (· < ·) := (List.pairwise_lt_range (n := n)).filter _

theorem rest_set {n : Nat} {listed : Array Bool} {i : Nat} (hi : i < listed.size) : rest n (listed.setIfInBounds i true) = (rest n listed).filter (· != i) := by
  simp only [rest, List.filter_filter]
  apply List.filter_congr
  intro j hj
  by_cases e : j = i
  · subst e; simp [hi]
  · simp [Array.getD_eq_getD_getElem?, Array.getElem?_setIfInBounds_ne (Ne.symm e), e]

theorem split_at {l : List Nat} {b : Nat} (hs : l.Pairwise (· < ·)) (hb : b ∈ l) : ∃ A B, l = A ++ b :: B ∧ (∀ a ∈ A, a < b) ∧ l.filter (· != b) = A ++ B := by
  obtain ⟨A, B, rfl⟩ := List.append_of_mem hb
  have hp := List.pairwise_append.1 hs
  have hA : ∀ a ∈ A, a < b := fun a ha => hp.2.2 a ha b (by simp)
  have hB : ∀ a ∈ B, b < a := fun a ha => (List.pairwise_cons.1 hp.2.1).1 a ha
  refine ⟨A, B, rfl, hA, ?_⟩
  rw [List.filter_append, List.filter_cons]
  simp only [bne_self_eq_false, Bool.false_eq_true, if_false]
  congr 1
  · exact List.filter_eq_self.2 fun a ha => by have := hA a ha; simp; omega
  · exact List.filter_eq_self.2 fun a ha => by have := hB a ha; simp; omega

/-- What stands ahead of an operation, step by step. -/
theorem before_listed {ops : Array Oper} {as : List AOper} {seps : List (Nat × Nat)} (hc : regCheck m ops as seps = true) {listed : Array Bool} (hn : listed.size = ops.size)
    (hd : ∀ i o, ops[i]? = some o → listed.getD i true = true → ∀ e ∈ o.after, Region.binds .any e = true → listed.getD e.on false = true) :
    ∀ (i : Nat) o, ops[i]? = some o → (∀ e ∈ o.after, Region.binds .any e = true → listed.getD e.on false = true) → ∀ a, a < i → ((Region.before ops).getD i 0).testBit a = true → listed.getD a true = true := by
  intro i
  induction i using Nat.strongRecOn with
  | _ i ih =>
    intro o ho hr a ha hb
    have hi : i < ops.size := (Array.getElem?_eq_some_iff.1 ho).1
    simp only [regCheck, Bool.and_eq_true, List.all_eq_true, List.mem_range] at hc
    have h1 := hc.2 i hi
    rw [ho] at h1
    simp only [Bool.and_eq_true, List.all_eq_true, List.mem_range] at h1
    have h2 := h1.2 a ha
    rw [if_pos hb] at h2
    rw [Array.any_eq_true'] at h2
    obtain ⟨e, he, h3⟩ := h2
    simp only [Bool.and_eq_true, Bool.or_eq_true, beq_iff_eq, decide_eq_true_eq] at h3
    have hl := hr e he h3.1
    have hlt : e.on < i := by
      have := Array.all_eq_true'.1 h1.1 e he
      simp only [h3.1, Bool.not_true, Bool.false_or, decide_eq_true_eq] at this
      exact this
    have hl' : listed.getD e.on true = true := by
      have : e.on < listed.size := by omega
      simp [Array.getD_eq_getD_getElem?, this] at hl ⊢
      exact hl
    rcases h3.2 with h4 | h4
    · rw [← h4]; exact hl'
    · obtain ⟨o', ho'⟩ : ∃ o', ops[e.on]? = some o' := ⟨ops[e.on]'(by omega), by simp [show e.on < ops.size by omega]⟩
      exact ih e.on hlt o' ho' (hd e.on o' ho' hl') a h4.1 h4.2

theorem any_sound {ops : Array Oper} {seps : List (Nat × Nat)} {nt : Nat} (hcomp : compOpers P nt ops ops.toList = some as) (hc : regCheck m ops as seps = true) {Q : Exit → Act → World → Prop} {Ff : Nat → AV} {Sf : St} (hsep : sepAll Ff seps) :
    ∀ (fuel : Nat) (listed : Array Bool) (G : Gh) (S : St) (w : World) (F : Nat → AV) (a : Act), (rest ops.size listed).length ≤ fuel → listed.size = ops.size →
      (∀ i o, ops[i]? = some o → listed.getD i true = true → ∀ e ∈ o.after, Region.binds .any e = true → listed.getD e.on false = true) → a.tmps.size = nt → Sim G S w → FRep G w F a →
      (∀ j ∈ rest ops.size listed, G.live (n0 + j) = false) → n0 + ops.size ≤ S.n → Runs P m as n0 (rest ops.size listed) F S Ff Sf →
      (∀ G' w' a', Ext G S w G' Sf w' → Sim G' Sf w' → FRep G' w' Ff a' → a'.defers = a.defers → a'.tmps.size = nt → Sf.n = S.n → (∀ k, k < n0 → G'.live k = true → G.live k = true) → Q .normal a' w') → wpAny P .any ops Q fuel listed a w := by
  have hm : m ≠ .free := by
    intro e
    simp only [regCheck, Bool.and_eq_true] at hc
    rw [e] at hc
    exact absurd hc.1.2 (by simp)
  obtain ⟨hlen, hget⟩ := compOpers_get hcomp
  -- nothing is ready just where nothing is left
  have hready : ∀ (listed : Array Bool), listed.size = ops.size → Region.ready .any ops listed = [] → rest ops.size listed = [] := by
    intro listed hn hr
    cases hl : rest ops.size listed with
    | nil => rfl
    | cons i l =>
      exfalso
      have hmem : i ∈ rest ops.size listed := by rw [hl]; simp
      obtain ⟨h1, h2⟩ := mem_rest.1 hmem
      have hsrt := rest_sorted ops.size listed
      rw [hl] at hsrt
      have hmin := (List.pairwise_cons.1 hsrt).1
      have : i ∈ Region.ready .any ops listed := by
        simp only [Region.ready, List.mem_filter, List.mem_range]
        refine ⟨h1, ?_⟩
        have ho : ops[i]? = some ops[i] := by simp [h1]
        rw [h2, ho]
        simp only [Bool.not_false, Option.map_some, Option.getD_some, Bool.true_and]
        rw [Array.all_eq_true']
        intro e he
        by_cases hb : Region.binds .any e = true
        · have hlt : e.on < i := by
            simp only [regCheck, Bool.and_eq_true, List.all_eq_true, List.mem_range] at hc
            have h3 := hc.2 i h1
            rw [ho] at h3
            simp only [Bool.and_eq_true] at h3
            have := Array.all_eq_true'.1 h3.1 e he
            simpa [hb] using this
          have hnot : e.on ∉ rest ops.size listed := by
            rw [hl]
            intro hin
            rcases List.mem_cons.1 hin with h4 | h4
            · omega
            · have := hmin _ h4; omega
          have hl2 : listed.getD e.on true = true := by
            cases hq : listed.getD e.on true with
            | true => rfl
            | false => exact absurd (mem_rest.2 ⟨by omega, hq⟩) hnot
          have hlt2 : e.on < listed.size := by omega
          simp [Array.getD_eq_getD_getElem?, hlt2] at hl2 ⊢
          exact .inr hl2
        · simp [hb]
      rw [hr] at this
      cases this
  intro fuel
  induction fuel with
  | zero =>
    intro listed G S w F a hf hn hd hz hS hF hl hN hR hQ
    have hr : rest ops.size listed = [] := List.eq_nil_of_length_eq_zero (by omega)
    rw [hr] at hR
    obtain ⟨rfl, rfl⟩ := hR
    refine ⟨?_, hQ G w a (Ext.refl _ _ _) hS hF rfl hz rfl (fun _ _ h => h)⟩
    cases hq : Region.ready .any ops listed with
    | nil => rfl
    | cons i l =>
      exfalso
      have : i ∈ Region.ready .any ops listed := by rw [hq]; simp
      simp only [Region.ready, List.mem_filter, List.mem_range, Bool.and_eq_true, Bool.not_eq_true'] at this
      have hin := mem_rest.2 ⟨this.1, this.2.1⟩
      rw [hr] at hin
      cases hin
  | succ fuel ih =>
    intro listed G S w F a hf hn hd hz hS hF hl hN hR hQ
    refine ⟨fun hr => ?_, fun i hi => ?_⟩
    · rw [hready listed hn hr] at hR
      obtain ⟨rfl, rfl⟩ := hR
      exact hQ G w a (Ext.refl _ _ _) hS hF rfl hz rfl (fun _ _ h => h)
    · simp only [Region.ready, List.mem_filter, List.mem_range, Bool.and_eq_true, Bool.not_eq_true'] at hi
      obtain ⟨hi1, hi2, hi3⟩ := hi
      have ho : ops[i]? = some ops[i] := by simp [hi1]
      rw [ho] at hi3
      simp only [Option.map_some, Option.getD_some, Array.all_eq_true'] at hi3
      have hdir : ∀ e ∈ ops[i].after, Region.binds .any e = true → listed.getD e.on false = true := fun e he hb => by
        have := hi3 e he
        simpa [hb] using this
      have hmem : i ∈ rest ops.size listed := mem_rest.2 ⟨hi1, hi2⟩
      obtain ⟨A, B, e1, hA, e2⟩ := split_at (rest_sorted ops.size listed) hmem
      have hA' : ∀ x ∈ A, x ∈ rest ops.size listed := fun x hx => by rw [e1]; simp [hx]
      have hpair : ∀ x ∈ A, x < i ∧ pairOk m as seps x i = true := by
        intro x hx
        have hxi := hA x hx
        refine ⟨hxi, ?_⟩
        have hnl := (mem_rest.1 (hA' x hx)).2
        have hnb : ((Region.before ops).getD i 0).testBit x ≠ true := fun hb => by
          have := before_listed hc hn hd i ops[i] ho hdir x hxi hb
          rw [hnl] at this; cases this
        simp only [regCheck, Bool.and_eq_true, List.all_eq_true, List.mem_range] at hc
        have h3 := hc.2 i hi1
        rw [ho] at h3
        simp only [Bool.and_eq_true, List.all_eq_true, List.mem_range] at h3
        have h4 := h3.2 x hxi
        rw [if_neg hnb] at h4
        exact h4
      have hfresh : ∀ j ∈ A ++ i :: B, S.H (n0 + j) = none := fun j hj => by
        have hlv := hl j (by rw [e1]; exact hj)
        cases hH : S.H (n0 + j) with
        | none => rfl
        | some b => have := (hS.blk _ b hH).1; rw [hlv] at this; cases this
      rw [e1] at hR
      have hnow : ∀ j ∈ A, ∀ o ob, as[j]? = some o → as[i]? = some ob → ∀ y, ob.op.at = .t y → o.dst ≠ some y := by
        intro j hj o ob h5 h6 y hy hdst
        have hp := (hpair j hj).2
        unfold pairOk at hp
        rw [h5, h6] at hp
        simp only [Bool.and_eq_true] at hp
        have h7 := ((apart_spec hp.1.1).1 y hdst).1
        apply h7
        refine List.mem_append_left _ (List.mem_filterMap.2 ⟨.t y, ?_, rfl⟩)
        have h8 : ob.op.at ∈ ob.op.opds ∨ ob.op.at = .v .junk := by
          cases ob.op <;> simp [AOp.at, AOp.opds]
        rcases h8 with h8 | h8
        · rw [hy] at h8; exact h8
        · rw [hy] at h8; cases h8
      have hR' := Runs.move hm hR hpair (by rw [← e1]; exact rest_sorted ops.size listed) hfresh hsep hnow
      obtain ⟨oi, F1, S1, g1, g2, g3⟩ := hR'
      obtain ⟨ai, k1, k2⟩ := hget i ops[i] (by simp)
      rw [g1] at k1
      simp only [Option.some.injEq] at k1
      subst k1
      unfold wpOp
      rw [ho]
      simp only
      have hs := step_sound (Q := Q) (next := wpAny P .any ops Q fuel (listed.setIfInBounds i true)) k2 hz hS hF (hl i hmem) (by omega) g2 (fun F' S' G' w' a' hK he hS' hF' hd' hz' hn' hlive => by
        obtain ⟨rfl, rfl⟩ := hK
        have hrs : rest ops.size (listed.setIfInBounds i true) = A ++ B := by rw [rest_set (by omega), e2]
        refine ih (listed.setIfInBounds i true) G' S1 w' F1 a' ?_ (by simpa using hn) ?_ (hz'.trans hz) hS' hF' (fun j hj => ?_) (by omega) (by rw [hrs]; exact g3) (fun G2 w2 a2 q1 q2 q3 q4 q5 q6 q7 => hQ G2 w2 a2 (he.trans q1) q2 q3 (q4.trans hd') q5 (q6.trans hn') (fun k hk h9 => (hlive k (q7 k hk h9)).elim (fun h => h) (fun e => absurd e (by omega))))
        · rw [hrs]
          have : (rest ops.size listed).length = A.length + (B.length + 1) := by rw [e1]; simp
          simp; omega
        · intro j o hj hlj e he' hb
          have key : listed.getD e.on false = true → (listed.setIfInBounds i true).getD e.on false = true := by
            intro h9
            by_cases e3 : e.on = i
            · rw [e3]; simp [show i < listed.size by omega]
            · simpa [Array.getD_eq_getD_getElem?, Array.getElem?_setIfInBounds_ne (Ne.symm e3)] using h9
          by_cases e3 : j = i
          · subst e3
            rw [ho] at hj
            simp only [Option.some.injEq] at hj
            subst hj
            exact key (hdir e he' hb)
          · have : listed.getD j true = true := by simpa [Array.getD_eq_getD_getElem?, Array.getElem?_setIfInBounds_ne (Ne.symm e3)] using hlj
            exact key (hd j o hj this e he' hb)
        · rw [hrs] at hj
          have hjr : j ∈ rest ops.size listed := by rw [e1]; simp at hj ⊢; rcases hj with h | h <;> simp [h]
          have hji : j ≠ i := by
            intro e3
            have : j ∈ (rest ops.size listed).filter (· != i) := by rw [e2]; exact hj
            rw [List.mem_filter] at this
            simp [e3] at this
          have h9 := hl j hjr
          cases hq : G'.live (n0 + j) with
          | false => rfl
          | true =>
            rcases hlive _ hq with h4 | h4
            · rw [h9] at h4; cases h4
            · omega)
      split
      · rename_i hw; rw [if_pos hw] at hs; exact .inl hs
      · rename_i hw; rw [if_neg hw] at hs; exact hs

end
end Go.Cw
