/- REGIONS: in the order of the text, and in any order. -/
import Derived.Test.YtinenepjloodcaaCwL
import Derived.Orders
set_option linter.unusedVariables false
set_option linter.unusedSimpArgs false
namespace Go.Cw

structure AOper where
  dst : Option Nat
  op : AOp
  guard : Option (Nat × Bool)

def upd (F : Nat → AV) (d : Nat) (v : AV) : Nat → AV := fun t => match Nat.beq t d with
  | true => v
  | false => F t
@[simp] theorem upd_apply (F : Nat → AV) (d : Nat) (v : AV) (t : Nat) : upd F d v t = if t = d then v else F t := by
  unfold upd
  by_cases h : t = d
  · rw [if_pos h, h, Nat.beq_refl]
  · rw [if_neg h]
    cases hq : Nat.beq t d with
    | true => exact absurd (Nat.eq_of_beq_eq_true hq) h
    | false => rfl

def updO (F : Nat → AV) (d : Option Nat) (v : AV) : Nat → AV :=
  match d with
  | some d => upd F d v
  | none => F

def wantedA (g : Option (Nat × Bool)) (F : Nat → AV) : Option Bool :=
  match g with
  | none => some true
  | some (d, w) => match F d with
    | .p (.bool b) => some (b == w)
    | .tup [] => some false
    | _ => none

def step (P : Program) (m : CMode) (o : AOper) (id : Nat) (F : Nat → AV) (S : St) (K : (Nat → AV) → St → Prop) : Prop :=
  match wantedA o.guard F with
  | some q => if q = true then act P m o.op (evalO F) S id (fun v S' => K (updO F o.dst v) S') else K (updO F o.dst (.tup [])) S
  | none => False

def aops (P : Program) (m : CMode) : List AOper → Nat → (Nat → AV) → St → ((Nat → AV) → St → Prop) → Prop
  | [], _, F, S, K => K F S
  | o :: os, id, F, S, K => step P m o id F S (fun F' S' => aops P m os (id + 1) F' S' K)

/-! ### The compiler -/

def dstOk : Option Nat → Nat → Bool
  | some d, nt => decide (d < nt)
  | none, _ => true

def compOper (P : Program) (nt : Nat) (ops : Array Oper) (o : Oper) : Option AOper :=
  match compOp P o.op with
  | none => none
  | some ao =>
    if dstOk o.dst nt = true then
      match o.guard with
      | none => some ⟨o.dst, ao, none⟩
      | some (j, w) => match (ops[j]?).bind (·.dst) with
        | some d => some ⟨o.dst, ao, some (d, w)⟩
        | none => none
    else none

def compOpers (P : Program) (nt : Nat) (ops : Array Oper) : List Oper → Option (List AOper)
  | [] => some []
  | o :: os => match compOper P nt ops o, compOpers P nt ops os with
    | some a, some as => some (a :: as)
    | _, _ => none

/-! ### One step is sound -/

section
variable {P : Program} {m : CMode} {G : Gh} {S : St} {w : World} {F : Nat → AV} {a : Act} {nt : Nat}

theorem FRep.put {v : AV} {cv : Value} {dst : Option Nat} (h : FRep G w F a) (hd : ∀ d, dst = some d → d < a.tmps.size) (hv : Rep G w v cv) : FRep G w (updO F dst v) (a.put dst cv) := by
  cases dst with
  | none => exact h
  | some d =>
    intro t
    simp only [updO, upd_apply, Act.put]
    have hlt := hd d rfl
    by_cases ht : t = d
    · subst ht
      simpa [hlt] using hv
    · rw [if_neg ht]
      have := h t
      simpa [Array.getD_eq_getD_getElem?, Array.getElem?_setIfInBounds_ne (Ne.symm ht)] using this

theorem put_size (a : Act) (dst : Option Nat) (v : Value) : (a.put dst v).tmps.size = a.tmps.size := by cases dst <;> simp [Act.put]
theorem put_defers' (a : Act) (dst : Option Nat) (v : Value) : (a.put dst v).defers = a.defers := by cases dst <;> simp [Act.put]

theorem getD_bool {a : Act} {d : Nat} {b : Bool} (h : a.tmps.getD d undef = .bool b) : a.tmps[d]? = some (.bool b) := by
  rw [Array.getD_eq_getD_getElem?] at h
  cases hq : a.tmps[d]? with
  | none => rw [hq] at h; simp [undef] at h
  | some v => rw [hq] at h; simpa using h

def Next' (G : Gh) (S : St) (w : World) (a : Act) (id : Nat) (K : (Nat → AV) → St → Prop) (next : Act → World → Prop) : Prop :=
  ∀ F' S' G' w' a', K F' S' → Ext G S w G' S' w' → Sim G' S' w' → FRep G' w' F' a' → a'.defers = a.defers → a'.tmps.size = a.tmps.size → S'.n = S.n → (∀ k, G'.live k = true → G.live k = true ∨ k = id) → next a' w'

theorem step_sound {ops : Array Oper} {o : Oper} {ao : AOper} (hc : compOper P nt ops o = some ao) (hsz : a.tmps.size = nt) (hS : Sim G S w) (hF : FRep G w F a) {id : Nat} (hid : G.live id = false) (hn : id < S.n) {K : (Nat → AV) → St → Prop}
    (h : step P m ao id F S K) {next : Act → World → Prop} {Q : Exit → Act → World → Prop} (hg : Next' G S w a id K next) :
    if Region.wanted o (yielded ops a.tmps) then o.wp P a w next Q else next (a.put o.dst undef) w := by
  unfold compOper at hc
  split at hc
  · cases hc
  · rename_i ap hap
    split at hc
    · rename_i hd
      have hdst : ∀ d, o.dst = some d → d < a.tmps.size := fun d e => by rw [e] at hd; simpa [hsz, dstOk] using hd
      have go : ∀ g, ao = ⟨o.dst, ap, g⟩ → act P m ap (evalO F) S id (fun v S' => K (updO F o.dst v) S') → o.wp P a w next Q := by
        intro g hao hact
        refine act_sound o ap hap hS hF hid hn (act_n' hact) (next := next) (Q := Q) ?_
        intro cv w' v S' G' h1 h2 h3 h4 h5
        exact hg _ _ _ _ _ h1.2 h2 h3 ((hF.mono h2.toLe).put hdst h4) (put_defers' _ _ _) (put_size _ _ _) h1.1 h5
      have skip : ∀ g, ao = ⟨o.dst, ap, g⟩ → K (updO F o.dst (.tup [])) S → next (a.put o.dst undef) w := by
        intro g hao hK
        exact hg _ _ _ _ _ hK (Ext.refl _ _ _) hS (hF.put hdst (.tup (vs := []) rfl (by simp))) (put_defers' _ _ _) (put_size _ _ _) rfl (fun _ h => .inl h)
      split at hc
      · rename_i hgd
        simp only [Option.some.injEq] at hc
        subst hc
        simp only [Region.wanted, hgd, if_true]
        simp only [step, wantedA, if_true] at h
        exact go none rfl h
      · rename_i j want hgd
        split at hc
        · rename_i d hdj
          simp only [Option.some.injEq] at hc
          subst hc
          simp only [step, wantedA] at h
          split at h
          · rename_i q hq
            split at hq
            · rename_i b hb
              simp only [Option.some.injEq] at hq
              have hr := hF d
              rw [hb] at hr
              have ht := getD_bool (rep_bool hr)
              have hy : yielded ops a.tmps j = some b := by simp [yielded, hdj, ht]
              simp only [Region.wanted, hgd, hy]
              subst hq
              by_cases hbw : b = want
              · subst hbw
                simp only [beq_self_eq_true, if_true] at h ⊢
                exact go _ rfl h
              · have e1 : (b == want) = false := by simpa using hbw
                have e2 : (some b == some want) = false := by simpa using hbw
                rw [e1] at h
                rw [e2]
                simp only [Bool.false_eq_true, if_false] at h ⊢
                exact skip _ rfl h
            · rename_i hb
              simp only [Option.some.injEq] at hq
              subst hq
              simp only [Bool.false_eq_true, if_false] at h
              have hr := hF d
              rw [hb] at hr
              obtain ⟨us, ht, hu⟩ := rep_tup hr
              have hu' : us = [] := RepL.nil_inv hu
              subst hu'
              have hy : yielded ops a.tmps j = none := by
                unfold yielded
                rw [hdj, Option.bind_some]
                rw [Array.getD_eq_getD_getElem?] at ht
                cases hq : a.tmps[d]? with
                | none => rfl
                | some v => rw [hq] at ht; simp only [Option.getD_some] at ht; rw [ht]
              simp only [Region.wanted, hgd, hy]
              have e2 : ((none : Option Bool) == some want) = false := rfl
              rw [e2]
              simp only [Bool.false_eq_true, if_false]
              exact skip _ rfl h
            · cases hq
          · exact h.elim
        · cases hc
    · cases hc

/-! ### In the order of the text -/

theorem aops_sound {ops : Array Oper} {Q : Exit → Act → World → Prop} : ∀ (os : List Oper) (as : List AOper) (id : Nat) (G : Gh) (S : St) (w : World) (F : Nat → AV) (a : Act) (K : (Nat → AV) → St → Prop), compOpers P nt ops os = some as → a.tmps.size = nt →
    Sim G S w → FRep G w F a → (∀ i, i < os.length → G.live (id + i) = false) → id + os.length ≤ S.n → aops P m as id F S K →
    (∀ F' S' G' w' a', K F' S' → Ext G S w G' S' w' → Sim G' S' w' → FRep G' w' F' a' → a'.defers = a.defers → a'.tmps.size = nt → S'.n = S.n → (∀ k, k < id → G'.live k = true → G.live k = true) → Q .normal a' w') → wpList P ops Q os a w
  | [], as, id, G, S, w, F, a, K, hc, hsz, hS, hF, hl, hn, h, hg => by
    simp only [compOpers, Option.some.injEq] at hc
    subst hc
    exact hg F S G w a h (Ext.refl _ _ _) hS hF rfl hsz rfl (fun _ _ h => h)
  | o :: os, as, id, G, S, w, F, a, K, hc, hsz, hS, hF, hl, hn, h, hg => by
    simp only [compOpers] at hc
    split at hc
    · rename_i ao as' h1 h2
      simp only [Option.some.injEq] at hc
      subst hc
      simp only [aops] at h
      have hs := step_sound (Q := Q) (next := wpList P ops Q os) h1 hsz hS hF (by have := hl 0 (by simp); simpa using this) (by simp at hn; omega) h (fun F' S' G' w' a' hK he hS' hF' hd hz hsn hlive => by
        refine aops_sound os as' (id + 1) G' S' w' F' a' K h2 (hz.trans hsz) hS' hF' (fun i hi => ?_) (by simp at hn; omega) hK (fun F2 S2 G2 w2 a2 q1 q2 q3 q4 q5 q6 q7 q8 => hg F2 S2 G2 w2 a2 q1 (he.trans q2) q3 q4 (q5.trans hd) q6 (q7.trans hsn) (fun k hk h9 => (hlive k (q8 k (by omega) h9)).elim (fun h => h) (fun e => absurd e (by omega))))
        have h3 := hl (i + 1) (by simpa using hi)
        rw [show id + 1 + i = id + (i + 1) by omega]
        cases hq : G'.live (id + (i + 1)) with
        | false => rfl
        | true =>
          rcases hlive _ hq with h4 | h4
          · rw [h3] at h4; cases h4
          · omega)
      unfold wpList
      split
      · rename_i hw; rw [if_pos hw] at hs; exact .inl hs
      · rename_i hw; rw [if_neg hw] at hs; exact hs
    · cases hc

end
end Go.Cw
