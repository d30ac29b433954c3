/- WHAT AN ABSTRACT OPERATION HANGS ON: that it comes to one value and one state; its operands; what it reads and turns of the state. -/
import Derived.Test.YtinenepjloodcaaCwJ
set_option linter.unusedVariables false
set_option linter.unusedSimpArgs false
namespace Go.Cw

def pt (v : AV) (S : St) (v' : AV) (S' : St) : Prop := v = v' ∧ S = S'

section
variable {P : Program} {m : CMode} {o : AOp} {ρ ρ' : Opd → AV} {S : St} {id : Nat} {K K' : AV → St → Prop}

theorem callA_point {f : Nat} {args : List AV} (h : callA P m f args S K) : ∃ v S', callA P m f args S (pt v S') ∧ K v S' := by
  cases m with
  | free => obtain ⟨r, S', h1, h0, h2⟩ := h; exact ⟨r, S', ⟨r, S', h1, h0, rfl, rfl⟩, h2⟩
  | same => obtain ⟨r, h1, h2⟩ := h; exact ⟨r, S, ⟨r, h1, rfl, rfl⟩, h2⟩
  | univ => obtain ⟨r, h1, h2⟩ := h; exact ⟨r, S, ⟨r, h1, rfl, rfl⟩, h2⟩

theorem actM_point {o : MOp} (hm : m ≠ .free) (h : actM P m o ρ S id K) : ∃ v S', actM P m o ρ S id (pt v S') ∧ K v S' := by
  cases o <;> simp only [actM] at h ⊢
  case mk wd z => exact ⟨_, _, ⟨rfl, rfl⟩, h⟩
  case look wd z x key =>
    obtain ⟨k, ks, es, cl, e1, e2, e3, e4, hK⟩ := h
    exact ⟨_, _, ⟨k, ks, es, cl, e1, e2, e3, e4, rfl, rfl⟩, hK⟩
  case ent wd z x key =>
    obtain ⟨k, ks, es, cl, e1, e2, e3, e4, hK⟩ := h
    exact ⟨_, _, ⟨k, ks, es, cl, e1, e2, e3, e4, rfl, rfl⟩, hK⟩
  case set x st v =>
    obtain ⟨k, b, es, es', wd, z, cl, e1, e2, e3, e4, hK⟩ := h
    exact ⟨_, _, ⟨k, b, es, es', wd, z, cl, e1, e2, e3, e4, rfl, rfl⟩, hK⟩
  case range x =>
    obtain ⟨k, wd, z, es, cl, e1, e2, hK⟩ := h
    exact ⟨_, _, ⟨k, wd, z, es, cl, e1, e2, rfl, rfl⟩, hK⟩
  case entry x =>
    obtain ⟨r, k, since, seen, b, wd, z, es, cl, e, e1, e2, e3, e4, hK⟩ := h
    exact ⟨_, _, ⟨r, k, since, seen, b, wd, z, es, cl, e, e1, e2, e3, e4, rfl, rfl⟩, hK⟩
  case callF f sz args =>
    obtain ⟨xs, h1, hK⟩ := h
    exact ⟨_, _, ⟨xs, h1, rfl, rfl⟩, hK⟩

theorem actM_mono {o : MOp} (hK : ∀ v S', K v S' → K' v S') (h : actM P m o ρ S id K) : actM P m o ρ S id K' := by
  cases o <;> simp only [actM] at h ⊢
  case mk wd z => exact hK _ _ h
  case look wd z x key =>
    obtain ⟨k, ks, es, cl, e1, e2, e3, e4, h⟩ := h
    exact ⟨k, ks, es, cl, e1, e2, e3, e4, hK _ _ h⟩
  case ent wd z x key =>
    obtain ⟨k, ks, es, cl, e1, e2, e3, e4, h⟩ := h
    exact ⟨k, ks, es, cl, e1, e2, e3, e4, hK _ _ h⟩
  case set x st v =>
    obtain ⟨k, b, es, es', wd, z, cl, e1, e2, e3, e4, h⟩ := h
    exact ⟨k, b, es, es', wd, z, cl, e1, e2, e3, e4, hK _ _ h⟩
  case range x =>
    obtain ⟨k, wd, z, es, cl, e1, e2, h⟩ := h
    exact ⟨k, wd, z, es, cl, e1, e2, hK _ _ h⟩
  case nxt x =>
    cases m
    · obtain ⟨r, k, since, seen, last, wd, z, es, cl, e1, e2, e3, e4, e5, e6⟩ := h
      exact ⟨r, k, since, seen, last, wd, z, es, cl, e1, e2, e3, e4, fun e he hs => hK _ _ (e5 e he hs), fun hs => hK _ _ (e6 hs)⟩
    · exact h.elim
    · exact h.elim
  case entry x =>
    obtain ⟨r, k, since, seen, b, wd, z, es, cl, e, e1, e2, e3, e4, h⟩ := h
    exact ⟨r, k, since, seen, b, wd, z, es, cl, e, e1, e2, e3, e4, hK _ _ h⟩
  case callF f sz args =>
    obtain ⟨xs, h1, h⟩ := h
    exact ⟨xs, h1, hK _ _ h⟩

theorem act_point (hm : m ≠ .free ∨ ∀ q, o ≠ .mp q) (h : act P m o ρ S id K) : ∃ v S', act P m o ρ S id (pt v S') ∧ K v S' := by
  cases o <;> simp only [act] at h ⊢
  case mp q =>
    rcases hm with hm | hm
    · exact actM_point hm h
    · exact absurd rfl (hm q)
  case mov x => exact ⟨_, _, ⟨rfl, rfl⟩, h⟩
  case pick c a b =>
    split at h
    · rename_i q heq
      by_cases hq : q = true
      · rw [if_pos hq] at h; exact ⟨_, _, by rw [if_pos hq]; exact ⟨rfl, rfl⟩, h⟩
      · rw [if_neg hq] at h; exact ⟨_, _, by rw [if_neg hq]; exact ⟨rfl, rfl⟩, h⟩
    · exact h.elim
  case alloc z => exact ⟨_, _, ⟨rfl, rfl⟩, h⟩
  case box x =>
    split at h
    · exact ⟨_, _, ⟨rfl, rfl⟩, h⟩
    · exact h.elim
  case build z ps =>
    split at h
    · exact ⟨_, _, ⟨rfl, rfl⟩, h⟩
    · exact h.elim
  case bslice sz z len ps =>
    split at h
    · split at h
      · rename_i l hl; (try simp only [hl]); exact ⟨_, _, ⟨rfl, rfl⟩, h⟩
      · exact h.elim
    · exact h.elim
  case load1 x =>
    split at h
    · split at h
      · rename_i hk
        split at h
        · rename_i c hc; (try simp only [hk, hc]); exact ⟨_, _, ⟨rfl, rfl⟩, h⟩
        · exact h.elim
      · exact h.elim
    · split at h
      · rename_i c hc; (try simp only [hc]); exact ⟨_, _, ⟨rfl, rfl⟩, h⟩
      · exact h.elim
    · exact h.elim
  case loadA n x =>
    split at h
    · split at h
      · rename_i hk; (try simp only [hk]); exact ⟨_, _, ⟨h.1, rfl, rfl⟩, h.2⟩
      · exact h.elim
    · exact ⟨_, _, ⟨h.1, rfl, rfl⟩, h.2⟩
    · exact h.elim
  case store n x v =>
    split at h
    · split at h
      · rename_i hk
        split at h
        · rename_i ds hds; (try simp only [hk, hds]); exact ⟨_, _, ⟨h.1, h.2.1, rfl, rfl⟩, h.2.2⟩
        · exact h.elim
      · exact h.elim
    · exact h.elim
  case fadr off x =>
    split at h
    · exact ⟨_, _, ⟨rfl, rfl⟩, h⟩
    · exact ⟨_, _, ⟨rfl, rfl⟩, h⟩
    · exact h.elim
  case iadrA len sz x i =>
    split at h
    · obtain ⟨h0, h1, h⟩ := h
      split at h
      · rename_i hx; (try simp only [hx]); exact ⟨_, _, ⟨h0, h1, rfl, rfl⟩, h⟩
      · rename_i hx; (try simp only [hx]); exact ⟨_, _, ⟨h0, h1, rfl, rfl⟩, h⟩
      · exact h.elim
    · exact h.elim
  case iadrS sz x i =>
    split at h
    · obtain ⟨h0, h⟩ := h
      split at h
      · rename_i hx; (try simp only [hx]); exact ⟨_, _, ⟨h0, h.1, rfl, rfl⟩, h.2⟩
      · exact h.elim
    · exact h.elim
  case arith op x y =>
    split at h
    · obtain ⟨h0, h⟩ := h
      split at h
      · rename_i hx; (try simp only [hx]); exact ⟨_, _, ⟨h0, rfl, rfl⟩, h⟩
      · exact h.elim
    · exact h.elim
  case eqB neg x y =>
    split at h
    · exact ⟨_, _, ⟨rfl, rfl⟩, h⟩
    · exact h.elim
  case eqA L neg x y =>
    split at h
    · split at h
      · rename_i hx; (try simp only [hx]); exact ⟨_, _, ⟨rfl, rfl⟩, h⟩
      · exact h.elim
    · exact h.elim
  case eqNil kd neg x y =>
    split at h
    · exact ⟨_, _, ⟨rfl, rfl⟩, h⟩
    · exact h.elim
  case not x =>
    split at h
    · exact ⟨_, _, ⟨rfl, rfl⟩, h⟩
    · exact h.elim
  case neg x =>
    split at h
    · exact ⟨_, _, ⟨rfl, rfl⟩, h⟩
    · exact h.elim
  case ext i x =>
    split at h
    · split at h
      · rename_i hx; (try simp only [hx]); exact ⟨_, _, ⟨rfl, rfl⟩, h⟩
      · exact h.elim
    · exact h.elim
  case slice sz x lo hi mx =>
    split at h
    · obtain ⟨h0, h⟩ := h
      split at h
      · rename_i hl hh
        obtain ⟨h1, h2, h3, h⟩ := h
        (try simp only [hl, hh])
        cases mx with
        | none => exact ⟨_, _, ⟨h0, h1, h2, h3, rfl, rfl⟩, h⟩
        | some mm => exact ⟨_, _, ⟨h0, h1, h2, h3, h.1, h.2.1, rfl, rfl⟩, h.2.2⟩
      · exact h.elim
    · exact h.elim
  case mkfn f caps => exact ⟨_, _, ⟨rfl, rfl⟩, h⟩
  case lenS x =>
    split at h
    · exact ⟨_, _, ⟨rfl, rfl⟩, h⟩
    · exact h.elim
  case append sz by_ x y =>
    split at h
    · rename_i n1 xs t n2 ys t2 _ _
      obtain ⟨h0, h1, h2, h3, h⟩ := h
      cases t with
      | no => exact h.elim
      | full => exact ⟨_, _, ⟨h0, h1, h2, h3, rfl, rfl⟩, h⟩
      | vec k => exact ⟨_, _, ⟨h0, h1, h2, h3, h.1, rfl, rfl⟩, h.2⟩
    · exact h.elim
  case minmax isMax x xs =>
    split at h
    · exact ⟨_, _, ⟨rfl, rfl⟩, h⟩
    · exact h.elim
  case call f args => exact callA_point h
  case callv x args =>
    split at h
    · obtain ⟨v, S', h1, h2⟩ := callA_point h.2
      exact ⟨v, S', ⟨h.1, h1⟩, h2⟩
    · exact h.elim

theorem callA_mono {f : Nat} {args : List AV} (hK : ∀ v S', K v S' → K' v S') (h : callA P m f args S K) : callA P m f args S K' := by
  cases m with
  | free => obtain ⟨r, S', h1, h0, h2⟩ := h; exact ⟨r, S', h1, h0, hK _ _ h2⟩
  | same => obtain ⟨r, h1, h2⟩ := h; exact ⟨r, h1, hK _ _ h2⟩
  | univ => obtain ⟨r, h1, h2⟩ := h; exact ⟨r, h1, hK _ _ h2⟩

theorem act_mono (hK : ∀ v S', K v S' → K' v S') (h : act P m o ρ S id K) : act P m o ρ S id K' := by
  cases o <;> simp only [act] at h ⊢
  case mp q => exact actM_mono hK h
  case call f args => exact callA_mono hK h
  case callv x args =>
    split at h
    · exact ⟨h.1, callA_mono hK h.2⟩
    · exact h.elim
  case slice sz x lo hi mx =>
    split at h
    · obtain ⟨h0, h⟩ := h
      refine ⟨h0, ?_⟩
      split at h
      · rename_i hl hh
        obtain ⟨h1, h2, h3, h⟩ := h
        (try simp only [hl, hh])
        refine ⟨h1, h2, h3, ?_⟩
        cases mx with
        | none => exact hK _ _ h
        | some mm => exact ⟨h.1, h.2.1, hK _ _ h.2.2⟩
      · exact h.elim
    · exact h.elim
  case append sz by_ x y =>
    split at h
    · rename_i n1 xs t n2 ys t2 _ _
      obtain ⟨h0, h1, h2, h3, h⟩ := h
      refine ⟨h0, h1, h2, h3, ?_⟩
      cases t with
      | no => exact h.elim
      | full => exact hK _ _ h
      | vec k => exact ⟨h.1, hK _ _ h.2⟩
    · exact h.elim
  case pick c a b =>
    split at h
    · split at h
      · rename_i hq; rw [if_pos hq]; exact hK _ _ h
      · rename_i hq; rw [if_neg hq]; exact hK _ _ h
    · exact h.elim
  case iadrA len sz x i =>
    split at h
    · obtain ⟨h0, h1, h⟩ := h
      refine ⟨h0, h1, ?_⟩
      split at h
      · rename_i hx; (try simp only [hx]); exact hK _ _ h
      · rename_i hx; (try simp only [hx]); exact hK _ _ h
      · exact h.elim
    · exact h.elim
  case iadrS sz x i =>
    split at h
    · obtain ⟨h0, h⟩ := h
      refine ⟨h0, ?_⟩
      split at h
      · rename_i hx; (try simp only [hx]); exact ⟨h.1, hK _ _ h.2⟩
      · exact h.elim
    · exact h.elim
  case arith op x y =>
    split at h
    · obtain ⟨h0, h⟩ := h
      refine ⟨h0, ?_⟩
      split at h
      · rename_i hx; (try simp only [hx]); exact hK _ _ h
      · exact h.elim
    · exact h.elim
  case load1 x =>
    split at h
    · split at h
      · rename_i hk
        split at h
        · rename_i c hc; (try simp only [hk, hc]); exact hK _ _ h
        · exact h.elim
      · exact h.elim
    · split at h
      · rename_i c hc; (try simp only [hc]); exact hK _ _ h
      · exact h.elim
    · exact h.elim
  case loadA n x =>
    split at h
    · split at h
      · rename_i hk; (try simp only [hk]); exact ⟨h.1, hK _ _ h.2⟩
      · exact h.elim
    · exact ⟨h.1, hK _ _ h.2⟩
    · exact h.elim
  case store n x v =>
    split at h
    · split at h
      · rename_i hk
        split at h
        · rename_i ds hds; (try simp only [hk, hds]); exact ⟨h.1, h.2.1, hK _ _ h.2.2⟩
        · exact h.elim
      · exact h.elim
    · exact h.elim
  case mov x => exact hK _ _ h
  case alloc z => exact hK _ _ h
  case mkfn f caps => exact hK _ _ h
  all_goals
    split at h
    all_goals first
      | exact h.elim
      | exact hK _ _ h
      | (split at h
         · rename_i hx; (try simp only [hx]); exact hK _ _ h
         · exact h.elim)

/-! ### Operands -/

def MOp.opds : MOp → List Opd
  | .mk _ _ => []
  | .look _ _ x k | .ent _ _ x k => [x, k]
  | .set x s v => [x, s, v]
  | .range x | .nxt x | .entry x => [x]
  | .callF _ _ args => args

def AOp.opds : AOp → List Opd
  | .mov x | .box x | .load1 x | .loadA _ x | .fadr _ x | .not x | .neg x | .ext _ x | .lenS x => [x]
  | .pick c a b => [c, a, b]
  | .alloc _ => []
  | .build _ ps | .bslice _ _ _ ps => ps.map (·.2.2)
  | .store _ x v | .iadrA _ _ x v | .iadrS _ x v | .arith _ x v | .eqB _ x v | .eqA _ _ x v | .eqNil _ _ x v | .append _ _ x v => [x, v]
  | .slice _ x lo hi mx => x :: (lo.toList ++ hi.toList ++ mx.toList)
  | .mkfn _ caps => caps
  | .minmax _ x xs => x :: xs
  | .call _ args => args
  | .callv x args => x :: args
  | .mp q => q.opds

theorem map_ps_congr {ps : List (Nat × Nat × Opd)} (h : ∀ x ∈ ps.map (·.2.2), ρ x = ρ' x) : (ps.map fun q => (q.1, q.2.1, ρ q.2.2)) = ps.map fun q => (q.1, q.2.1, ρ' q.2.2) :=
  List.map_congr_left fun q hq => by rw [h q.2.2 (List.mem_map.2 ⟨q, hq, rfl⟩)]

theorem actM_congr {o : MOp} (h : ∀ x ∈ o.opds, ρ x = ρ' x) : actM P m o ρ S id K = actM P m o ρ' S id K := by
  cases o <;> simp only [MOp.opds, List.mem_cons, List.not_mem_nil, or_false, forall_eq_or_imp, forall_eq] at h <;> simp only [actM]
  case callF f sz args => rw [List.map_congr_left h]
  all_goals first
    | rw [h]
    | rw [h.1, h.2]
    | rw [h.1, h.2.1, h.2.2]

theorem act_congr (h : ∀ x ∈ o.opds, ρ x = ρ' x) : act P m o ρ S id K = act P m o ρ' S id K := by
  cases o <;> simp only [AOp.opds, List.mem_cons, List.not_mem_nil, or_false, forall_eq_or_imp, forall_eq, List.mem_append, Option.mem_toList] at h <;> simp only [act]
  case mp q => exact actM_congr h
  case build z ps => rw [map_ps_congr (by simpa using h)]
  case bslice sz z len ps => rw [map_ps_congr (by simpa using h)]
  case mkfn f caps => rw [List.map_congr_left h]
  case minmax b x xs => rw [h.1, List.map_congr_left h.2]
  case call f args => rw [List.map_congr_left h]
  case callv x args => rw [h.1, List.map_congr_left h.2]
  case slice sz x lo hi mx =>
    obtain ⟨hx, hr⟩ := h
    have e1 : lo.map ρ = lo.map ρ' := by cases lo with | none => rfl | some y => simp [hr y (by simp)]
    have e2 : hi.map ρ = hi.map ρ' := by cases hi with | none => rfl | some y => simp [hr y (by simp)]
    rw [hx, e1, e2]
    cases mx with
    | none => rfl
    | some y => simp only [hr y (by simp)]
  all_goals first
    | rw [h]
    | rw [h.1, h.2]
    | rw [h.1, h.2.1, h.2.2]

end
end Go.Cw
