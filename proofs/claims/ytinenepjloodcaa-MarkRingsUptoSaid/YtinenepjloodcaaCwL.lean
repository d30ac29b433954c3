/- TWO OPERATIONS THAT HAVE NOTHING TO DO WITH ONE ANOTHER MAY CHANGE PLACES. -/
import Derived.Test.YtinenepjloodcaaCwK
set_option linter.unusedVariables false
set_option linter.unusedSimpArgs false
namespace Go.Cw

inductive AC where
  | pure
  | rd
  | call
  | al
  | ap
  | wr
  | mrd
  | ment
  | wild
  deriving DecidableEq

def MOp.ac : MOp → AC
  | .look _ _ _ _ => .mrd
  | .ent _ _ _ _ => .ment
  | .callF _ _ _ => .ap
  | _ => .wild

def AOp.ac (m : CMode) : AOp → AC
  | .load1 _ | .loadA _ _ => .rd
  | .alloc _ | .box _ => .al
  | .append _ _ _ _ => .ap
  | .store _ _ _ => .wr
  | .mp q => q.ac
  | .call _ _ | .callv _ _ => match m with | .univ => .pure | _ => .call
  | _ => .pure

def AOp.at : AOp → Opd
  | .load1 x | .loadA _ x | .store _ x _ => x
  | _ => .v .junk

def keyOf : AV → Option Nat
  | .ptr k _ => some k
  | _ => none

/-- Is what one operation reads none of what another one writes? -/
def sepV (x y : AV) : Prop :=
  match x, y with
  | .ptr k _, .ptr k' _ => k ≠ k'
  | _, _ => True

section
variable {P : Program} {m : CMode} {o : AOp} {ρ : Opd → AV} {S S' : St} {id : Nat} {v : AV}

theorem act_pure (hp : o.ac m = .pure) (h : act P m o ρ S id (pt v S')) : S' = S ∧ ∀ S2 id2, act P m o ρ S2 id2 (pt v S2) := by
  cases o <;> simp only [AOp.ac, reduceCtorEq] at hp <;> simp only [act] at h ⊢
  case call f args =>
    cases m <;> simp only [reduceCtorEq] at hp
    obtain ⟨r, h1, h2, h3⟩ := h
    exact ⟨h3, fun S2 _ => ⟨r, h1, h2, rfl⟩⟩
  case callv x args =>
    cases m <;> simp only [reduceCtorEq] at hp
    split at h
    · obtain ⟨h0, r, h1, h2, h3⟩ := h
      exact ⟨h3, fun S2 _ => ⟨h0, r, h1, h2, rfl⟩⟩
    · exact h.elim
  case mp q => cases q <;> simp only [MOp.ac, reduceCtorEq] at hp
  case mov x => exact ⟨h.2, fun S2 _ => ⟨h.1, rfl⟩⟩
  case mkfn f caps => exact ⟨h.2, fun S2 _ => ⟨h.1, rfl⟩⟩
  case pick c a b =>
    split at h
    · split at h
      · rename_i hq; exact ⟨h.2, fun S2 _ => by rw [if_pos hq]; exact ⟨h.1, rfl⟩⟩
      · rename_i hq; exact ⟨h.2, fun S2 _ => by rw [if_neg hq]; exact ⟨h.1, rfl⟩⟩
    · exact h.elim
  case slice sz x lo hi mx =>
    split at h
    · obtain ⟨h0, h⟩ := h
      split at h
      · rename_i hl hh
        obtain ⟨h1, h2, h3, h⟩ := h
        cases mx with
        | none => exact ⟨h.2, fun S2 _ => ⟨h0, by (try simp only [hl, hh]); exact ⟨h1, h2, h3, h.1, rfl⟩⟩⟩
        | some mm => exact ⟨h.2.2.2, fun S2 _ => ⟨h0, by (try simp only [hl, hh]); exact ⟨h1, h2, h3, h.1, h.2.1, h.2.2.1, rfl⟩⟩⟩
      · exact h.elim
    · exact h.elim
  case iadrA len sz x i =>
    split at h
    · obtain ⟨h0, h1, h⟩ := h
      split at h
      · exact ⟨h.2, fun S2 _ => ⟨h0, h1, h.1, rfl⟩⟩
      · exact ⟨h.2, fun S2 _ => ⟨h0, h1, h.1, rfl⟩⟩
      · exact h.elim
    · exact h.elim
  case iadrS sz x i =>
    split at h
    · obtain ⟨h0, h⟩ := h
      split at h
      · rename_i hx; exact ⟨h.2.2, fun S2 _ => ⟨h0, by (try simp only [hx]); exact ⟨h.1, h.2.1, rfl⟩⟩⟩
      · exact h.elim
    · exact h.elim
  case arith op x y =>
    split at h
    · obtain ⟨h0, h⟩ := h
      split at h
      · rename_i hx; exact ⟨h.2, fun S2 _ => ⟨h0, by (try simp only [hx]); exact ⟨h.1, rfl⟩⟩⟩
      · exact h.elim
    · exact h.elim
  case bslice sz z len ps =>
    split at h
    · split at h
      · rename_i hx; exact ⟨h.2, fun S2 _ => by (try simp only [hx]); exact ⟨h.1, rfl⟩⟩
      · exact h.elim
    · exact h.elim
  case eqA L neg x y =>
    split at h
    · split at h
      · rename_i hx; exact ⟨h.2, fun S2 _ => by (try simp only [hx]); exact ⟨h.1, rfl⟩⟩
      · exact h.elim
    · exact h.elim
  case ext i x =>
    split at h
    · split at h
      · rename_i hx; exact ⟨h.2, fun S2 _ => by (try simp only [hx]); exact ⟨h.1, rfl⟩⟩
      · exact h.elim
    · exact h.elim
  all_goals
    split at h
    all_goals first
      | exact h.elim
      | exact ⟨h.2, fun S2 _ => ⟨h.1, rfl⟩⟩

theorem act_quiet (hm : m ≠ .free) (hp : o.ac m = .pure ∨ o.ac m = .rd ∨ o.ac m = .call) (h : act P m o ρ S id (pt v S')) : S' = S ∧ ∀ id2, act P m o ρ S id2 (pt v S) := by
  rcases hp with hp | hp | hp
  · obtain ⟨h1, h2⟩ := act_pure hp h; exact ⟨h1, fun id2 => h2 S id2⟩
  · cases o <;> (try (cases m <;> simp only [AOp.ac, reduceCtorEq] at hp; done)) <;> simp only [act] at h ⊢
    case mp q => cases q <;> simp only [AOp.ac, MOp.ac, reduceCtorEq] at hp
    case load1 x =>
      split at h
      · split at h
        · rename_i hk
          split at h
          · rename_i hc; exact ⟨h.2, fun _ => by (try simp only [hk, hc]); exact ⟨h.1, rfl⟩⟩
          · exact h.elim
        · exact h.elim
      · split at h
        · rename_i hc; exact ⟨h.2, fun _ => by (try simp only [hc]); exact ⟨h.1, rfl⟩⟩
        · exact h.elim
      · exact h.elim
    case loadA n x =>
      split at h
      · split at h
        · rename_i hk; exact ⟨h.2.2, fun _ => by (try simp only [hk]); exact ⟨h.1, h.2.1, rfl⟩⟩
        · exact h.elim
      · exact ⟨h.2.2, fun _ => ⟨h.1, h.2.1, rfl⟩⟩
      · exact h.elim
  · cases o <;> (try (cases m <;> simp only [AOp.ac, reduceCtorEq] at hp; done)) <;> simp only [act] at h ⊢
    case mp q => cases q <;> simp only [AOp.ac, MOp.ac, reduceCtorEq] at hp
    case call f args =>
      cases m <;> simp only [AOp.ac, reduceCtorEq] at hp
      · exact absurd rfl hm
      · obtain ⟨r, h1, h2, h3⟩ := h
        exact ⟨h3, fun _ => ⟨r, h1, h2, rfl⟩⟩
    case callv x args =>
      cases m <;> simp only [AOp.ac, reduceCtorEq] at hp
      · exact absurd rfl hm
      · split at h
        · obtain ⟨h0, r, h1, h2, h3⟩ := h
          exact ⟨h3, fun _ => ⟨h0, r, h1, h2, rfl⟩⟩
        · exact h.elim

theorem act_rd (hp : o.ac m = .rd) (h : act P m o ρ S id (pt v S')) : S' = S ∧ (∀ k, keyOf (ρ o.at) = some k → ∃ cs, S.H k = some (.cells cs)) ∧ ∀ S2 id2, (∀ k, keyOf (ρ o.at) = some k → S2.H k = S.H k) → act P m o ρ S2 id2 (pt v S2) := by
  cases o <;> (try (cases m <;> simp only [AOp.ac, reduceCtorEq] at hp; done)) <;> simp only [act, AOp.at] at h ⊢
  case mp q => cases q <;> simp only [AOp.ac, MOp.ac, reduceCtorEq] at hp
  case load1 x =>
    split at h
    · rename_i k o' hx
      split at h
      · rename_i cs hk
        split at h
        · rename_i c hc
          refine ⟨h.2, fun k' e => ?_, fun S2 _ hS2 => ?_⟩
          · simp only [keyOf, hx, Option.some.injEq] at e; subst e; exact ⟨cs, hk⟩
          · have := hS2 k (by simp [keyOf, hx])
            rw [hk] at this
            simp only [this, hc]
            exact ⟨h.1, rfl⟩
        · exact h.elim
      · exact h.elim
    · rename_i hx
      split at h
      · rename_i c hc
        exact ⟨h.2, fun k' e => by simp [keyOf, hx] at e, fun S2 _ hS2 => by (try simp only [hc]); exact ⟨h.1, rfl⟩⟩
      · exact h.elim
    · exact h.elim
  case loadA n x =>
    split at h
    · rename_i k o' hx
      split at h
      · rename_i cs hk
        refine ⟨h.2.2, fun k' e => ?_, fun S2 _ hS2 => ?_⟩
        · simp only [keyOf, hx, Option.some.injEq] at e; subst e; exact ⟨cs, hk⟩
        · have := hS2 k (by simp [keyOf, hx])
          rw [hk] at this
          simp only [this]
          exact ⟨h.1, h.2.1, rfl⟩
      · exact h.elim
    · rename_i hx
      exact ⟨h.2.2, fun k' e => by simp [keyOf, hx] at e, fun S2 _ hS2 => ⟨h.1, h.2.1, rfl⟩⟩
    · exact h.elim

theorem act_al (hp : o.ac m = .al) (h : act P m o ρ S id (pt v S')) : ∃ b, S' = S.put id (.cells b) ∧ ∀ S2, act P m o ρ S2 id (pt v (S2.put id (.cells b))) := by
  cases o <;> (try (cases m <;> simp only [AOp.ac, reduceCtorEq] at hp; done)) <;> simp only [act] at h ⊢
  case mp q => cases q <;> simp only [AOp.ac, MOp.ac, reduceCtorEq] at hp
  case alloc z => exact ⟨z, h.2, fun S2 => ⟨h.1, rfl⟩⟩
  case box x =>
    split at h
    · rename_i cs hcs; exact ⟨cs, h.2, fun S2 => ⟨h.1, rfl⟩⟩
    · exact h.elim

theorem act_ap (hp : o.ac m = .ap) (h : act P m o ρ S id (pt v S')) : ∃ k q sz, S' = S.put k (.fr q sz) ∧ ((k = id ∧ ∀ S2, act P m o ρ S2 id (pt v (S2.put k (.fr q sz)))) ∨
    (∃ mm, S.H k = some (.fr mm sz) ∧ ∀ S2, S2.H k = S.H k → act P m o ρ S2 id (pt v (S2.put k (.fr q sz))))) := by
  cases o <;> (try (cases m <;> simp only [AOp.ac, reduceCtorEq] at hp; done)) <;> simp only [act] at h ⊢
  case mp q =>
    cases q <;> simp only [AOp.ac, MOp.ac, reduceCtorEq] at hp
    case callF f sz args =>
      simp only [actM] at h ⊢
      obtain ⟨xs, h1, h2, h3⟩ := h
      exact ⟨id, _, _, h3, .inl ⟨rfl, fun S2 => ⟨xs, h1, h2, rfl⟩⟩⟩
  case append sz by_ x y =>
    split at h
    · rename_i n1 xs t n2 ys t2 _ _
      obtain ⟨h0, h1, h2, h3, h⟩ := h
      cases t with
      | no => exact h.elim
      | full => exact ⟨id, _, _, h.2, .inl ⟨rfl, fun S2 => ⟨h0, h1, h2, h3, h.1, rfl⟩⟩⟩
      | vec k => exact ⟨k, _, _, h.2.2, .inr ⟨_, h.1, fun S2 hS2 => ⟨h0, h1, h2, h3, by rw [hS2]; exact h.1, h.2.1, rfl⟩⟩⟩
    · exact h.elim

theorem act_wr (hp : o.ac m = .wr) (h : act P m o ρ S id (pt v S')) : ∃ k cs cs', keyOf (ρ o.at) = some k ∧ S.H k = some (.cells cs) ∧ S' = S.put k (.cells cs') ∧ ∀ S2 id2, S2.H k = S.H k → act P m o ρ S2 id2 (pt v (S2.put k (.cells cs'))) := by
  cases o <;> (try (cases m <;> simp only [AOp.ac, reduceCtorEq] at hp; done)) <;> simp only [act, AOp.at] at h ⊢
  case mp q => cases q <;> simp only [AOp.ac, MOp.ac, reduceCtorEq] at hp
  case store n x y =>
    split at h
    · rename_i k o' hx
      split at h
      · rename_i cs hk
        split at h
        · rename_i ds hds
          refine ⟨k, cs, _, by simp [keyOf, hx], hk, h.2.2.2, fun S2 _ hS2 => ?_⟩
          rw [hk] at hS2
          simp only [hS2]
          exact ⟨h.1, h.2.1, h.2.2.1, rfl⟩
        · exact h.elim
      · exact h.elim
    · exact h.elim

theorem actM_n' {o : MOp} {K : AV → St → Prop} (h : actM P m o ρ S id K) : actM P m o ρ S id (fun v S' => S'.n = S.n ∧ K v S') := by
  cases o <;> simp only [actM] at h ⊢
  case mk wd z => exact ⟨by first | rfl | trivial, h⟩
  case look wd z x key =>
    obtain ⟨k, ks, es, cl, e1, e2, e3, e4, h⟩ := h
    exact ⟨k, ks, es, cl, e1, e2, e3, e4, by first | rfl | trivial, h⟩
  case ent wd z x key =>
    obtain ⟨k, ks, es, cl, e1, e2, e3, e4, h⟩ := h
    exact ⟨k, ks, es, cl, e1, e2, e3, e4, by first | rfl | trivial, h⟩
  case set x st v =>
    obtain ⟨k, b, es, es', wd, z, cl, e1, e2, e3, e4, h⟩ := h
    exact ⟨k, b, es, es', wd, z, cl, e1, e2, e3, e4, by first | rfl | trivial, h⟩
  case range x =>
    obtain ⟨k, wd, z, es, cl, e1, e2, h⟩ := h
    exact ⟨k, wd, z, es, cl, e1, e2, by first | rfl | trivial, h⟩
  case nxt x =>
    cases m
    · obtain ⟨r, k, since, seen, last, wd, z, es, cl, e1, e2, e3, e4, e5, e6⟩ := h
      exact ⟨r, k, since, seen, last, wd, z, es, cl, e1, e2, e3, e4, fun e he hs => ⟨by first | rfl | trivial, e5 e he hs⟩, fun hs => ⟨by first | rfl | trivial, e6 hs⟩⟩
    · exact h.elim
    · exact h.elim
  case entry x =>
    obtain ⟨r, k, since, seen, b, wd, z, es, cl, e, e1, e2, e3, e4, h⟩ := h
    exact ⟨r, k, since, seen, b, wd, z, es, cl, e, e1, e2, e3, e4, by first | rfl | trivial, h⟩
  case callF f sz args =>
    obtain ⟨xs, h1, h⟩ := h
    exact ⟨xs, h1, by first | rfl | trivial, h⟩

theorem actM_n {o : MOp} (hm : m ≠ .free) (h : actM P m o ρ S id (pt v S')) : S'.n = S.n := by
  obtain ⟨v', S2, h1, h2, h3, h4⟩ := actM_point hm (actM_n' h)
  rw [h4]; exact h2

theorem act_n (hm : m ≠ .free ∨ ∀ q, o ≠ .mp q) (h : act P m o ρ S id (pt v S')) : S'.n = S.n := by
  by_cases hmp : ∃ q, o = .mp q
  · obtain ⟨q, rfl⟩ := hmp
    rcases hm with hm | hm
    · exact actM_n hm h
    · exact absurd rfl (hm q)
  cases hp : o.ac m
  case mrd | ment | wild => cases o <;> (try (cases m <;> simp only [AOp.ac, reduceCtorEq] at hp; done)); rename_i q; exact absurd ⟨q, rfl⟩ hmp
  case pure => obtain ⟨e, _⟩ := act_pure hp h; rw [e]
  case rd => obtain ⟨e, _⟩ := act_rd hp h; rw [e]
  case al => obtain ⟨b, e, _⟩ := act_al hp h; rw [e]; rfl
  case ap => obtain ⟨k, q, sz, e, _⟩ := act_ap hp h; rw [e]; rfl
  case wr => obtain ⟨k, cs, cs', _, _, e, _⟩ := act_wr hp h; rw [e]; rfl
  case call =>
    cases o <;> (try (cases m <;> simp only [AOp.ac, reduceCtorEq] at hp; done)) <;> simp only [act] at h
    case mp q => exact absurd ⟨q, rfl⟩ hmp
    case call f args =>
      cases m
      · obtain ⟨r, S2, h1, h2, h3, h4⟩ := h; rw [h4]; exact h2
      · obtain ⟨r, h1, h2, h3⟩ := h; rw [h3]
      · obtain ⟨r, h1, h2, h3⟩ := h; rw [h3]
    case callv x args =>
      split at h
      · obtain ⟨_, h⟩ := h
        cases m
        · obtain ⟨r, S2, h1, h2, h3, h4⟩ := h; rw [h4]; exact h2
        · obtain ⟨r, h1, h2, h3⟩ := h; rw [h3]
        · obtain ⟨r, h1, h2, h3⟩ := h; rw [h3]
      · exact h.elim

theorem act_n' {K : AV → St → Prop} (h : act P m o ρ S id K) : act P m o ρ S id (fun v S' => S'.n = S.n ∧ K v S') := by
  by_cases hmp : ∃ q, o = .mp q
  · obtain ⟨q, rfl⟩ := hmp
    exact actM_n' h
  have hm : m ≠ .free ∨ ∀ q, o ≠ .mp q := .inr fun q e => hmp ⟨q, e⟩
  obtain ⟨v, S', h1, h2⟩ := act_point hm h
  refine act_mono ?_ h1
  rintro v' S2 ⟨rfl, rfl⟩
  exact ⟨act_n hm h1, h2⟩

theorem put_comm (S : St) {k k' : Nat} (h : k ≠ k') (b b' : Blk) : (S.put k b).put k' b' = (S.put k' b').put k b := by
  simp only [St.put, St.mk.injEq, true_and]
  funext j
  by_cases h1 : j = k <;> by_cases h2 : j = k' <;> simp_all

/-- May the second one (of a region's text) come ahead of the first one, by their kinds? -/
def acOk : AC → AC → Bool
  | .pure, _ | _, .pure => true
  | .rd, .rd | .rd, .call | .call, .rd | .call, .call => true
  | .rd, .al | .rd, .ap | .ap, .rd => true
  | .al, .al | .al, .ap | .ap, .al => true
  | .rd, .wr | .wr, .rd => true
  | .mrd, .ment | .ment, .mrd | .mrd, .mrd => true
  | _, _ => false

def sepOf (ca cb : AC) (x y : AV) : Prop :=
  match ca, cb with
  | .rd, .wr | .wr, .rd => sepV x y
  | _, _ => True

theorem findK_push {ks : List Int} {e : List Int × AV × Nat} : ∀ {es : MEs}, findK ks (es ++ [e]) = match findK ks es with | some x => some x | none => if e.1 = ks then some e else none
  | [] => by simp [findK]
  | x :: es => by
    simp only [List.cons_append, findK]
    split
    · rfl
    · exact findK_push

theorem look_entE {z : AV} {ks ks' : List Int} {es : MEs} {cl : Nat} : lookV z ks (entE z ks' es cl) = lookV z ks es := by
  unfold entE
  split
  · rfl
  · unfold lookV
    rw [findK_push]
    cases findK ks es with
    | some x => rfl
    | none => by_cases h : ks' = ks <;> simp [h]

theorem act_swap {oa ob : AOp} {ida idb : Nat} {va vb : AV} {S1 S2 : St} (hm : m ≠ .free) (hid : ida ≠ idb) (fa : S.H ida = none) (fb : S.H idb = none) (hok : acOk (oa.ac m) (ob.ac m) = true) (hsep : sepOf (oa.ac m) (ob.ac m) (ρ oa.at) (ρ ob.at))
    (ha : act P m oa ρ S ida (pt va S1)) (hb : act P m ob ρ S1 idb (pt vb S2)) : ∃ S1', act P m ob ρ S idb (pt vb S1') ∧ act P m oa ρ S1' ida (pt va S2) := by
  have pureA : oa.ac m = .pure → ∃ S1', act P m ob ρ S idb (pt vb S1') ∧ act P m oa ρ S1' ida (pt va S2) := fun h => by
    obtain ⟨e, h2⟩ := act_pure h ha
    subst e
    exact ⟨S2, hb, h2 S2 ida⟩
  have pureB : ob.ac m = .pure → ∃ S1', act P m ob ρ S idb (pt vb S1') ∧ act P m oa ρ S1' ida (pt va S2) := fun h => by
    obtain ⟨e, h2⟩ := act_pure h hb
    subst e
    exact ⟨S, h2 S idb, ha⟩
  have quiet : (oa.ac m = .rd ∨ oa.ac m = .call) → (ob.ac m = .rd ∨ ob.ac m = .call) → ∃ S1', act P m ob ρ S idb (pt vb S1') ∧ act P m oa ρ S1' ida (pt va S2) := fun h h' => by
    obtain ⟨e, h2⟩ := act_quiet hm (.inr h) ha
    subst e
    obtain ⟨e, h3⟩ := act_quiet hm (.inr h') hb
    subst e
    exact ⟨_, hb, ha⟩
  cases hca : oa.ac m <;> cases hcb : ob.ac m <;> simp only [hca, hcb, acOk, reduceCtorEq, Bool.false_eq_true] at hok
  case mrd.ment =>
    cases oa <;> (try (cases m <;> simp only [AOp.ac, reduceCtorEq] at hca; done))
    rename_i qa
    cases ob <;> (try (cases m <;> simp only [AOp.ac, reduceCtorEq] at hcb; done))
    rename_i qb
    cases qa <;> simp only [AOp.ac, MOp.ac, reduceCtorEq] at hca
    cases qb <;> simp only [AOp.ac, MOp.ac, reduceCtorEq] at hcb
    simp only [act, actM] at ha hb ⊢
    obtain ⟨k, ks, es, cl, a1, a2, a3, a4, a5, a6⟩ := ha
    obtain ⟨k', ks', es', cl', b1, b2, b3, b4, b5, b6⟩ := hb
    subst a6
    refine ⟨S2, ⟨k', ks', es', cl', b1, b2, b3, b4, b5, b6⟩, ?_⟩
    subst b6
    by_cases hk : k = k'
    · subst hk
      rw [a3] at b3
      simp only [Option.some.injEq, Blk.map.injEq] at b3
      obtain ⟨rfl, rfl, rfl, rfl⟩ := b3
      exact ⟨k, ks, _, _, a1, a2, by rw [St.put_H, if_pos rfl], a4, by rw [look_entE]; exact a5, rfl⟩
    · exact ⟨k, ks, es, cl, a1, a2, by simp [hk, a3], a4, a5, rfl⟩
  case ment.mrd =>
    cases oa <;> (try (cases m <;> simp only [AOp.ac, reduceCtorEq] at hca; done))
    rename_i qa
    cases ob <;> (try (cases m <;> simp only [AOp.ac, reduceCtorEq] at hcb; done))
    rename_i qb
    cases qa <;> simp only [AOp.ac, MOp.ac, reduceCtorEq] at hca
    cases qb <;> simp only [AOp.ac, MOp.ac, reduceCtorEq] at hcb
    simp only [act, actM] at ha hb ⊢
    obtain ⟨k, ks, es, cl, a1, a2, a3, a4, a5, a6⟩ := ha
    obtain ⟨k', ks', es', cl', b1, b2, b3, b4, b5, b6⟩ := hb
    subst a6
    subst b6
    refine ⟨S, ?_, ⟨k, ks, es, cl, a1, a2, a3, a4, a5, rfl⟩⟩
    by_cases hk : k' = k
    · subst hk
      simp only [St.put_H, if_true, Option.some.injEq, Blk.map.injEq] at b3
      obtain ⟨rfl, rfl, rfl, rfl⟩ := b3
      exact ⟨k', ks', es, cl, b1, b2, a3, b4, by rw [look_entE] at b5; exact b5, rfl⟩
    · simp only [St.put_H, if_neg hk] at b3
      exact ⟨k', ks', es', cl', b1, b2, b3, b4, b5, rfl⟩
  case mrd.mrd =>
    cases oa <;> (try (cases m <;> simp only [AOp.ac, reduceCtorEq] at hca; done))
    rename_i qa
    cases ob <;> (try (cases m <;> simp only [AOp.ac, reduceCtorEq] at hcb; done))
    rename_i qb
    cases qa <;> simp only [AOp.ac, MOp.ac, reduceCtorEq] at hca
    cases qb <;> simp only [AOp.ac, MOp.ac, reduceCtorEq] at hcb
    simp only [act, actM] at ha hb ⊢
    obtain ⟨k, ks, es, cl, a1, a2, a3, a4, a5, a6⟩ := ha
    obtain ⟨k', ks', es', cl', b1, b2, b3, b4, b5, b6⟩ := hb
    subst a6
    subst b6
    exact ⟨_, ⟨k', ks', es', cl', b1, b2, b3, b4, b5, rfl⟩, ⟨k, ks, es, cl, a1, a2, a3, a4, a5, rfl⟩⟩
  case rd.rd => exact quiet (.inl hca) (.inl hcb)
  case rd.call => exact quiet (.inl hca) (.inr hcb)
  case call.rd => exact quiet (.inr hca) (.inl hcb)
  case call.call => exact quiet (.inr hca) (.inr hcb)
  case rd.al =>
    obtain ⟨e, h1, h2⟩ := act_rd hca ha
    subst e
    obtain ⟨b, rfl, h3⟩ := act_al hcb hb
    refine ⟨_, h3 S1, h2 _ _ fun k hk => ?_⟩
    obtain ⟨cs, hcs⟩ := h1 k hk
    have : k ≠ idb := fun e => by subst e; rw [hcs] at fb; cases fb
    simp [this]
  case rd.ap =>
    obtain ⟨e, h1, h2⟩ := act_rd hca ha
    subst e
    obtain ⟨k', q, sz, rfl, h3⟩ := act_ap hcb hb
    refine ⟨_, hb, h2 _ _ fun k hk => ?_⟩
    obtain ⟨cs, hcs⟩ := h1 k hk
    have : k ≠ k' := fun e => by
      subst e
      rcases h3 with ⟨e, _⟩ | ⟨mm, hmm, _⟩
      · subst e; rw [hcs] at fb; cases fb
      · rw [hcs] at hmm; cases hmm
    simp [this]
  case ap.rd =>
    obtain ⟨k', q, sz, rfl, h3⟩ := act_ap hca ha
    obtain ⟨e, h1, h2⟩ := act_rd hcb hb
    subst e
    refine ⟨S, h2 _ _ fun k hk => ?_, ha⟩
    obtain ⟨cs, hcs⟩ := h1 k hk
    have : k ≠ k' := fun e => by subst e; simp at hcs
    simp [this]
  case al.al =>
    obtain ⟨b, rfl, h1⟩ := act_al hca ha
    obtain ⟨b', rfl, h2⟩ := act_al hcb hb
    refine ⟨_, h2 S, ?_⟩
    rw [put_comm S hid]
    exact h1 _
  case al.ap =>
    obtain ⟨b, rfl, h1⟩ := act_al hca ha
    obtain ⟨k', q, sz, rfl, h3⟩ := act_ap hcb hb
    rcases h3 with ⟨e, h3⟩ | ⟨mm, hmm, h3⟩
    · subst e
      refine ⟨_, h3 S, ?_⟩
      rw [put_comm S hid]
      exact h1 _
    · have hk : k' ≠ ida := fun e => by subst e; simp at hmm
      refine ⟨_, h3 S (by simp [hk]), ?_⟩
      rw [put_comm S (Ne.symm hk)]
      exact h1 _
  case ap.al =>
    obtain ⟨k', q, sz, rfl, h3⟩ := act_ap hca ha
    obtain ⟨b, rfl, h1⟩ := act_al hcb hb
    rcases h3 with ⟨e, h3⟩ | ⟨mm, hmm, h3⟩
    · subst e
      refine ⟨_, h1 S, ?_⟩
      rw [put_comm S hid]
      exact h3 _
    · have hk : k' ≠ idb := fun e => by subst e; rw [hmm] at fb; cases fb
      refine ⟨_, h1 S, ?_⟩
      rw [put_comm S hk]
      exact h3 _ (by simp [hk])
  case rd.wr =>
    simp only [hca, hcb, sepOf] at hsep
    obtain ⟨e, h1, h2⟩ := act_rd hca ha
    subst e
    obtain ⟨k', cs, cs', hk', hcs, rfl, h3⟩ := act_wr hcb hb
    refine ⟨_, hb, h2 _ _ fun k hk => ?_⟩
    have : k ≠ k' := fun e => by
      subst e
      unfold sepV at hsep
      revert hsep hk hk'
      cases ρ oa.at <;> cases ρ ob.at <;> simp [keyOf]
      rintro h rfl rfl
      exact h rfl
    simp [this]
  case wr.rd =>
    simp only [hca, hcb, sepOf] at hsep
    obtain ⟨k', cs, cs', hk', hcs, rfl, h3⟩ := act_wr hca ha
    obtain ⟨e, h1, h2⟩ := act_rd hcb hb
    subst e
    refine ⟨S, h2 _ _ fun k hk => ?_, ha⟩
    have : k ≠ k' := fun e => by
      subst e
      unfold sepV at hsep
      revert hsep hk hk'
      cases ρ oa.at <;> cases ρ ob.at <;> simp [keyOf]
      rintro h rfl rfl
      exact h rfl
    simp [this]
  all_goals first
    | exact pureA hca
    | exact pureB hcb

end
end Go.Cw
