/- A FUNCTION THAT HANDS OUT A ROW OF ITS OWN. -/
import Derived.Test.YtinenepjloodcaaCwR
set_option linter.unusedVariables false
set_option linter.unusedSimpArgs false
namespace Go.Cw

structure EndsF (S : St) (res : List ARes) (xs : List (List PV)) (sz : Nat) (F1 : Nat → AV) (S1 : St) : Prop where
  mk ::
  n : S.n ≤ S1.n
  old : ∀ j, j < S.n → S1.H j = S.H j
  go : (∃ k, resAs F1 S1 res = some [.sl xs.isEmpty xs (.vec k)] ∧ S.n ≤ k ∧ k < S1.n ∧ S1.H k = some (.fr xs.length sz)) ∨ (xs = [] ∧ resAs F1 S1 res = some [.sl true [] .full])

def endFQ (S : St) (res : List ARes) (xs : List (List PV)) (sz : Nat) : Exit → (Nat → AV) → St → Prop
  | .normal, F, S1 | .ret, F, S1 => EndsF S res xs sz F S1
  | _, _, _ => False

section
variable {P : Program}
theorem fspec_of {f : Nat} {same : List Nat} {af : AFunc} (hm : P.follows .mixedOrders = true) (hc : compFunc P same f = some af) {args : List AV} (hlen : args.length ≤ af.nt) {xs : List (List PV)} {sz : Nat}
    (h : ∀ S : St, S.wf → AV.underL S.n args → awp P S af.code (fun t => args.getD t .junk) S (endFQ S af.res xs sz)) : FSpec P f args xs sz := by
  intro S G w vs hS hr
  have hwf : S.wf := fun k hk => by
    cases hq : S.H k with
    | none => rfl
    | some b => have := hS.bnd k (hS.blk k b hq).1; omega
  have hul : AV.underL S.n args := underL_of fun i c hc => by
    obtain ⟨v, _, hv⟩ := hr.get i c hc
    exact hv.alive hS.bnd
  unfold compFunc at hc
  split at hc
  · rename_i fn hf
    split at hc
    · rename_i c rs hb hrs
      simp only [Option.map_eq_some_iff] at hc
      obtain ⟨ac, hac, rfl⟩ := hc
      refine calls_of_wp hf hb ?_
      have hsz : vs.length ≤ fn.ntmps := by rw [← hr.1]; exact hlen
      have := awp_sound hm hS c ac hac _ S _ (h S hwf hul) G w _ (Ext.refl _ _ _) hS (frep_args hr fn.ntmps) (by simp; omega) (Nat.le_refl _) (fun _ _ h => h)
      refine wp_mono this ?_
      rintro e a' w' ⟨F', S1, G', hq, he, hS1, hF', hd, hz, hn1, hv⟩
      have fin : EndsF S rs xs sz F' S1 → a'.defers = [] ∧ ∃ v, (results fn a'.tmps).run P w' = .ok v w' ∧ ∃ v_1 G' k S', Ending.returned v = .returned v_1 ∧ S.n ≤ k ∧ S'.n = k + 1 ∧ (∀ j, S'.H j = if j = k then some (.fr xs.length sz) else S.H j) ∧ Ext G S w G' S' w' ∧ Sim G' S' w' ∧ Rep G' w' (.sl xs.isEmpty xs (.vec k)) v_1 ∧ ∀ j, j < S.n → G'.live j = true → G.live j = true := by
        intro hq
        refine ⟨hd, ?_⟩
        obtain ⟨hn, hold, ⟨k, h1, h2, h3, h4⟩ | ⟨rfl, h1⟩⟩ := hq
        · obtain ⟨v, e1, e2⟩ := results_sound hS1 hF' hrs h1
          have hw : wkS S S1 ⟨k + 1, fun j => if j = k then some (.fr xs.length sz) else S.H j⟩ := by
            refine ⟨by simp only; omega, by simp only; omega, fun j b hj => ?_⟩
            dsimp only at hj ⊢
            split at hj
            · rename_i e
              subst e
              cases hj
              exact ⟨h4, .inr ⟨by omega, trivial⟩⟩
            · have hjn : j < S.n := by
                rcases Nat.lt_or_ge j S.n with h | h
                · exact h
                · rw [hwf j h] at hj; cases hj
              exact ⟨by rw [hold j hjn]; exact hj, .inl hj⟩
          refine ⟨v, e1, v, G'.cut (k + 1), k, _, rfl, h2, rfl, fun j => rfl, Ext.wk hS he hw, Sim.wk hS1 hw hS, e2.wk (n := k + 1) (y := .sl xs.isEmpty xs (.vec k)) (.same (show k < k + 1 by omega)), fun j hj hl => ?_⟩
          simp only [Gh.cut, Bool.and_eq_true, decide_eq_true_eq] at hl
          exact hv j hj hl.1
        · obtain ⟨v, e1, e2⟩ := results_sound hS1 hF' hrs h1
          have e3 : Rep G' w' (.sl true [] .full) v := e2
          have hS2 : Sim G' ⟨S1.n + 1, S1.H⟩ w' := ⟨⟨hS1.blk, fun k hk => Nat.lt_succ_of_lt (hS1.bnd k hk), hS1.set, hS1.free⟩, hS1.own⟩
          have hid : G'.live S1.n = false := by
            cases hq : G'.live S1.n
            · rfl
            · exact absurd (hS1.bnd _ hq) (Nat.lt_irrefl _)
          cases e3 with
          | sl rx ht =>
            obtain ⟨a, rfl⟩ := ht
            have hle := Le.reg (G := G') (w := w') hid 0 ⟨a, 0, sz, 0⟩
            have hbk : BlkOk (G'.reg S1.n 0 ⟨a, 0, sz, 0⟩) w' S1.n (.fr 0 sz) := by
              refine ⟨by simp [Gh.reg], by simp [Gh.reg], by simp [Gh.reg], by simp [Gh.reg], fun b hb => ?_⟩
              exact ⟨.inl (by simp [Gh.reg]), fun j h1 h2 => by simp [Gh.reg] at h2⟩
            have hS3 : Sim (G'.reg S1.n 0 ⟨a, 0, sz, 0⟩) (St.put ⟨S1.n + 1, S1.H⟩ S1.n (.fr 0 sz)) w' := ⟨hS2.toSimC.reg 0 _ hle (Nat.lt_succ_self _) _ hbk, fun b o k h => hle.live k (hS2.own b o k h)⟩
            have he2 : Ext G S w G' ⟨S1.n + 1, S1.H⟩ w' := ⟨he.toLe, he.os, he.tape, he.output, he.size, he.kept, he.own⟩
            have he3 : Ext G S w (G'.reg S1.n 0 ⟨a, 0, sz, 0⟩) (St.put ⟨S1.n + 1, S1.H⟩ S1.n (.fr 0 sz)) w' := he2.reg 0 _ hle _ (fun b' _ o h => absurd h (no_own hS2 hid _ _))
            have hw : wkS S (St.put ⟨S1.n + 1, S1.H⟩ S1.n (.fr 0 sz)) ⟨S1.n + 1, fun j => if j = S1.n then some (.fr 0 sz) else S.H j⟩ := by
              refine ⟨by simp only; omega, Nat.le_refl _, fun j b hj => ?_⟩
              dsimp only at hj ⊢
              simp only [St.put_H]
              split at hj
              · rename_i e
                subst e
                cases hj
                exact ⟨by simp, .inr ⟨by omega, trivial⟩⟩
              · rename_i hne
                have hjn : j < S.n := by
                  rcases Nat.lt_or_ge j S.n with h | h
                  · exact h
                  · rw [hwf j h] at hj; cases hj
                exact ⟨by rw [if_neg hne, hold j hjn]; exact hj, .inl hj⟩
            have e4 : Rep (G'.reg S1.n 0 ⟨a, 0, sz, 0⟩) w' (.sl true [] (.vec S1.n)) (.slice a 0 0) := .sl (rx.mono hle.settled hle.pres) ⟨by simp [Gh.reg], by simp [Gh.reg], fun _ => by simp [Gh.reg]⟩
            refine ⟨_, e1, _, _, S1.n, _, rfl, hn, rfl, fun j => rfl, Ext.wk hS he3 hw, Sim.wk hS3 hw hS, e4.wk (n := S1.n + 1) (y := .sl true [] (.vec S1.n)) (.same (show S1.n < S1.n + 1 by omega)), fun j hj hl => ?_⟩
            simp only [Gh.cut, Gh.reg, Bool.and_eq_true, decide_eq_true_eq] at hl
            refine hv j hj ?_
            have hl1 := hl.1
            rw [if_neg (by omega)] at hl1
            exact hl1
      cases e with
      | normal => exact fin hq
      | ret => exact fin hq
      | exit id => exact hq.elim
      | goto l => exact hq.elim
      | panic ch => exact hq.elim
      | outgrown => exact hq.elim
    · cases hc
  · cases hc

theorem q_funF {f : Nat} {same : List Nat} {af : AFunc} (hm : P.follows .mixedOrders = true) (hc : compFunc P same f = some af) {args : List AV} {nt : Nat} {res : List ARes} {code : ACode} (ha : af = ⟨nt, res, code⟩) (hlen : args.length ≤ nt) {xs : List (List PV)} {sz : Nat}
    (h : ∀ S : St, S.wf → AV.underL S.n args → awp P S code (fun t => args.getD t .junk) (ST S S.n []) (endFQ S res xs sz)) : FSpec P f args xs sz := by
  subst ha; exact fspec_of hm hc hlen h

theorem getB_old {H0 : Nat → Option Blk} {m j : Nat} (hj : j < m) : ∀ {H : List (Nat × Blk)}, keysP m H → getB H0 H j = H0 j
  | [], _ => rfl
  | (k, b) :: H, h => by
    have h1 : m ≤ k := h.1
    have h2 := getB_old (H0 := H0) hj h.2
    simp only [getB]; rw [if_neg (by omega)]; exact h2

theorem q_end_F {S0 : St} {n t sz : Nat} {H : List (Nat × Blk)} {F : Nat → AV} {xs : List (List PV)} {tk : Option Nat} (hwf : S0.wf) (hr : F t = outV xs tk) (h0 : tk = none → xs = []) (h1 : ∀ k, tk = some k → xs ≠ [] ∧ S0.n ≤ k ∧ k < n ∧ getB S0.H H k = some (.fr xs.length sz))
    (hk : keysP S0.n H) (hn : S0.n ≤ n) : endFQ S0 [.tmp t] xs sz .ret F (ST S0 n H) := by
  refine ⟨hn, fun j hj => getB_old hj hk, ?_⟩
  cases tk with
  | none => exact .inr ⟨h0 rfl, by rw [h0 rfl] at hr; simp [resAs, resA, hr, outV, tkTok]⟩
  | some k =>
    obtain ⟨h2, h3, h4, h5⟩ := h1 k rfl
    refine .inl ⟨k, ?_, h3, h4, h5⟩
    cases xs with
    | nil => exact absurd rfl h2
    | cons x xs => simp [resAs, resA, hr, outV, tkTok]
end
end Go.Cw
