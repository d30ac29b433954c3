/- NAMES: which names a value bears. -/
import Derived.Test.YtinenepjloodcaaCwD
set_option linter.unusedVariables false
set_option linter.unusedSimpArgs false
namespace Go.Cw

def Tok.under (n : Nat) : Tok → Prop
  | .vec k => k < n
  | _ => True

mutual
def AV.under (n : Nat) : AV → Prop
  | .sl _ _ t => t.under n
  | .agg cs => AV.underL n cs
  | .tup cs => AV.underL n cs
  | .ptr k _ => k < n
  | .map k => k < n
  | .fn _ cs => AV.underL n cs
  | .junk | .p _ | .ref _ _ | .nilfn | .nilptr | .nilmap => True
def AV.underL (n : Nat) : List AV → Prop
  | [] => True
  | c :: cs => c.under n ∧ AV.underL n cs
end

theorem underL_mem {n : Nat} : ∀ {cs : List AV}, AV.underL n cs → ∀ (i : Nat) c, cs[i]? = some c → c.under n
  | [], _, i, c, h => by simp at h
  | c :: cs, hb, i, c', h => by
    cases i with
    | zero => simp at h; subst h; exact hb.1
    | succ i => simp at h; exact underL_mem hb.2 i c' h

theorem underL_of {n : Nat} : ∀ {cs : List AV}, (∀ (i : Nat) c, cs[i]? = some c → c.under n) → AV.underL n cs
  | [], _ => trivial
  | c :: cs, h => ⟨h 0 c rfl, underL_of fun i c' hi => h (i + 1) c' (by simpa using hi)⟩

def Blk.under (n : Nat) : Blk → Prop
  | .cells cs => AV.underL n cs
  | .fr _ _ => True
  | .map _ z es _ => ∀ (i : Nat) e, es[i]? = some e → e.2.1.under n
  | .iter mk _ _ _ => mk < n

section
variable {G : Gh} {w : World} {n : Nat}

/-- What a value names is alive. -/
theorem Rep.alive {x : AV} {v : Value} (h : Rep G w x v) (hl : ∀ k, G.live k = true → k < n) : x.under n := by
  induction h with
  | sl h ht =>
    rename_i t v
    cases t with
    | no => trivial
    | full => trivial
    | vec k => exact hl k ht.1
  | agg hlen h h1 ih =>
    rename_i cs vs
    exact underL_of fun i c hc => by
      have hi : i < vs.length := by rw [← hlen]; exact (List.getElem?_eq_some_iff.1 hc).1
      exact ih i c vs[i] hc (by simp [hi])
  | tup hlen h ih =>
    rename_i cs vs
    exact underL_of fun i c hc => by
      have hi : i < vs.length := by rw [← hlen]; exact (List.getElem?_eq_some_iff.1 hc).1
      exact ih i c vs[i] hc (by simp [hi])
  | fn hlen h ih =>
    rename_i cs vs
    exact underL_of fun i c hc => by
      have hi : i < vs.length := by rw [← hlen]; exact (List.getElem?_eq_some_iff.1 hc).1
      exact ih i c vs[i] hc (by simp [hi])
  | ptr h => exact hl _ h
  | map h => exact hl _ h
  | _ => trivial

theorem BlkOk.alive {k : Nat} {b : Blk} (h : BlkOk G w k b) (hl : ∀ k, G.live k = true → k < n) : b.under n := by
  cases b with
  | cells cs =>
    obtain ⟨vs, e, _, hr, _⟩ := h
    refine underL_of fun i c hc => ?_
    obtain ⟨v, _, hv⟩ := hr.get i c hc
    exact hv.alive hl
  | fr m wd => trivial
  | map wd z es cl =>
    obtain ⟨mes, _, hs, hr, _⟩ := h
    intro i e he
    have hi : i < mes.size := by rw [hs]; exact (List.getElem?_eq_some_iff.1 he).1
    obtain ⟨_, _, h2, _⟩ := hr i e mes[i] he (by simp [hi])
    exact h2.alive hl
  | iter mk since seen last => exact hl mk h.2.1

end
end Go.Cw
