/- PLAIN: a job's edges as links: what they go around is what the rings do. -/
import Derived.Test.YtinenepjloodcaaCwSMd
import Derived.Test.YtinenepjloodcaaCwU
set_option linter.unusedVariables false
set_option linter.unusedSimpArgs false
namespace Go.Proofs.Ytinenepjloodcaa
open Go.Cw

def lkOf (e : Eg) : Option Lk :=
  if gcmp ⟨e.px, e.py⟩ ⟨e.qx, e.qy⟩ = 0 then none
  else if gcmp ⟨e.px, e.py⟩ ⟨e.qx, e.qy⟩ = 1 then some ⟨e.qx, e.qy, e.px, e.py, -1 * (1 - e.o), -1 * e.o⟩
  else some ⟨e.px, e.py, e.qx, e.qy, 1 * (1 - e.o), 1 * e.o⟩
def lksE : List Eg → List Lk
  | [] => []
  | e :: l => match lkOf e with
    | none => lksE l
    | some k => k :: lksE l

theorem gcmp_cases (p q : Pt) : (gcmp p q = 0 ∧ p = q) ∨ (gcmp p q = 1 ∧ gcmp q p = -1) ∨ (gcmp p q = -1 ∧ gcmp q p = 1) := by
  obtain ⟨px, py⟩ := p
  obtain ⟨qx, qy⟩ := q
  simp only [gcmp, orI, cmpI, Pt.mk.injEq]
  by_cases h1 : px < qx <;> by_cases h2 : qx < px <;> by_cases h3 : py < qy <;> by_cases h4 : qy < py <;> simp [h1, h2, h3, h4] <;> omega

theorem lksE_len (l : List Eg) : (lksE l).length ≤ l.length := by
  induction l with
  | nil => simp [lksE]
  | cons e l ih => simp only [lksE]; split <;> simp only [List.length_cons] <;> omega

theorem lkOf_may {e : Eg} (hn : e.near) (ho : e.o = 0 ∨ e.o = 1) {k : Lk} (h : lkOf e = some k) : mayL k = true := by
  obtain ⟨h1, h2, h3, h4⟩ := hn
  unfold lkOf at h
  split at h
  · cases h
  · rename_i h0
    have hc := gcmp_cases ⟨e.px, e.py⟩ ⟨e.qx, e.qy⟩
    split at h
    · rename_i h5
      simp only [Option.some.injEq] at h
      subst h
      have : gcmp ⟨e.qx, e.qy⟩ ⟨e.px, e.py⟩ = -1 := by omega
      simp only [mayL, small, Bool.and_eq_true, decide_eq_true_eq]
      simp only [this]
      omega
    · rename_i h5
      simp only [Option.some.injEq] at h
      subst h
      have : gcmp ⟨e.px, e.py⟩ ⟨e.qx, e.qy⟩ = -1 := by omega
      simp only [mayL, small, Bool.and_eq_true, decide_eq_true_eq]
      simp only [this]
      omega

theorem lksE_mem {l : List Eg} {k : Lk} (h : k ∈ lksE l) : ∃ e ∈ l, lkOf e = some k := by
  induction l with
  | nil => simp [lksE] at h
  | cons e l ih =>
    simp only [lksE] at h
    split at h
    · obtain ⟨e', h1, h2⟩ := ih h; exact ⟨e', by simp [h1], h2⟩
    · rename_i k' hk
      rcases List.mem_cons.1 h with rfl | h
      · exact ⟨e, by simp, hk⟩
      · obtain ⟨e', h1, h2⟩ := ih h; exact ⟨e', by simp [h1], h2⟩

theorem lksE_right {l : List Eg} (hl : l.length ≤ 1048576) (hn : ∀ e ∈ l, e.near) (ho : ∀ e ∈ l, e.o = 0 ∨ e.o = 1) : rightL (lksE l) = true := by
  simp only [rightL, Bool.and_eq_true, decide_eq_true_eq, List.all_eq_true]
  refine ⟨Nat.le_trans (lksE_len l) hl, fun k hk => ?_⟩
  obtain ⟨e, h1, h2⟩ := lksE_mem hk
  exact lkOf_may (hn e h1) (ho e h1) h2

/-! ### A place on a link -/

theorem onP_swap (o p q : Pt) : onP o p q = onP o q p := by
  have h := turn_swap p q o
  simp only [turn] at h
  simp only [onP, Int.min_comm p.x, Int.min_comm p.y, Int.max_comm p.x, Int.max_comm p.y, h]
  cases rightP o <;> cases rightP p <;> cases rightP q <;> simp <;> (repeat' constructor) <;> intros <;> omega

theorem lkOf_on {e : Eg} {k : Lk} (h : lkOf e = some k) (o : Pt) : onL o k = onE o e := by
  unfold lkOf at h
  split at h
  · cases h
  · split at h
    · simp only [Option.some.injEq] at h
      subst h
      exact onP_swap _ _ _
    · simp only [Option.some.injEq] at h
      subst h
      rfl

theorem on_lksE {l : List Eg} {o : Pt} (h : (lksE l).any (onL o) = true) : l.any (onE o) = true := by
  obtain ⟨k, h1, h2⟩ := List.any_eq_true.1 h
  obtain ⟨e, h3, h4⟩ := lksE_mem h1
  exact List.any_eq_true.2 ⟨e, h3, by rw [← lkOf_on h4]; exact h2⟩

/-! ### Sums -/

def rgE (o : Pt) (e : Eg) : Int := rgt o e.p2 e.q2
def sumR (o : Pt) (w : Eg → Int) : List Eg → Int
  | [] => 0
  | e :: l => rgE o e * w e + sumR o w l
theorem rgt_swap (o p q : Pt) : rgt o q p = - rgt o p q := by
  have h := turn_swap p q o
  simp only [rgt, h]
  repeat' split
  all_goals omega
theorem rgt_same (o p : Pt) : rgt o p p = 0 := by
  simp only [rgt]
  rw [if_neg (by omega), if_neg (by omega)]

theorem cnt_lksE (o : Pt) (i : Nat) : ∀ (l : List Eg) (i : Nat), cnt (sgR o) Lk.a (-1) (lksE l) i = sumR o (fun e => 1 - e.o) l ∧ cnt (sgR o) Lk.b (-1) (lksE l) i = sumR o (fun e => e.o) l
  | [], i => ⟨rfl, rfl⟩
  | e :: l, i => by
    have ih := cnt_lksE o i l
    simp only [lksE, sumR]
    cases hk : lkOf e with
    | none =>
      dsimp only
      have hz : rgE o e = 0 := by
        unfold lkOf at hk
        split at hk
        · rename_i h0
          rcases gcmp_cases ⟨e.px, e.py⟩ ⟨e.qx, e.qy⟩ with h | h | h
          · have := h.2
            simp only [Pt.mk.injEq] at this
            simp only [rgE, Eg.p2, Eg.q2, this.1, this.2]
            exact rgt_same _ _
          · omega
          · omega
        · split at hk <;> cases hk
      rw [hz, (ih i).1, (ih i).2]
      omega
    | some k =>
      dsimp only
      simp only [cnt]
      rw [if_pos (by omega), if_pos (by omega), (ih (i + 1)).1, (ih (i + 1)).2]
      unfold lkOf at hk
      split at hk
      · cases hk
      · split at hk
        · simp only [Option.some.injEq] at hk
          subst hk
          have hs : sgR o ⟨e.qx, e.qy, e.px, e.py, -1 * (1 - e.o), -1 * e.o⟩ = - rgE o e := rgt_swap _ _ _
          rw [hs]
          dsimp only
          have h1 : -rgE o e * (-1 * (1 - e.o)) = rgE o e * (1 - e.o) := by rw [Int.neg_mul, Int.neg_one_mul, Int.mul_neg, Int.neg_neg]
          have h2 : -rgE o e * (-1 * e.o) = rgE o e * e.o := by rw [Int.neg_mul, Int.neg_one_mul, Int.mul_neg, Int.neg_neg]
          rw [h1, h2]
          exact ⟨rfl, rfl⟩
        · simp only [Option.some.injEq] at hk
          subst hk
          have hs : sgR o ⟨e.px, e.py, e.qx, e.qy, 1 * (1 - e.o), 1 * e.o⟩ = rgE o e := rfl
          rw [hs]
          dsimp only
          rw [Int.one_mul, Int.one_mul]
          exact ⟨rfl, rfl⟩

theorem sumR_append (o : Pt) (w : Eg → Int) (a b : List Eg) : sumR o w (a ++ b) = sumR o w a + sumR o w b := by
  induction a with
  | nil => simp [sumR]
  | cons e a ih => simp only [List.cons_append, sumR, ih]; omega
theorem sumU_append (o : Pt) (a b : List Eg) : sumU o (a ++ b) = sumU o a + sumU o b := by
  induction a with
  | nil => simp [sumU]
  | cons e a ih => simp only [List.cons_append, sumU, ih]; omega

/-! ### A ring is closed -/

def quadO (o p : Pt) : Int := quad (p.x - o.x) (p.y - o.y)
def sumQ (o : Pt) : List Eg → Int
  | [] => 0
  | e :: l => (quadO o e.q2 - quadO o e.p2) + sumQ o l
theorem sumQ_append (o : Pt) (a b : List Eg) : sumQ o (a ++ b) = sumQ o a + sumQ o b := by
  induction a with
  | nil => simp [sumQ]
  | cons e a ih => simp only [List.cons_append, sumQ, ih]; omega
theorem sumQ_edR (o : Pt) (f : Int) (z : Pt) : ∀ (r : List Pt) (p : Pt), sumQ o (edR f z (p :: r)) = quadO o ⟨2 * z.x, 2 * z.y⟩ - quadO o ⟨2 * p.x, 2 * p.y⟩
  | [], p => by simp only [edR, sumQ, egOf, Eg.p2, Eg.q2]; omega
  | q :: r, p => by
    have := sumQ_edR o f z r q
    simp only [edR, sumQ, this]
    simp only [egOf, Eg.p2, Eg.q2]
    omega
theorem sumQ_edgE (o : Pt) (f : Int) : ∀ rs : List Rg, sumQ o (edgE f rs) = 0
  | [] => rfl
  | r :: rs => by
    rw [edgE, sumQ_append, sumQ_edgE o f rs]
    cases hp : r.pts with
    | nil => rfl
    | cons p l => rw [ringE, sumQ_edR]; omega

theorem step_eq {o : Pt} {e : Eg} (hn : e.near) (hx : -268435456 ≤ o.x ∧ o.x ≤ 268435456) (hy : -268435456 ≤ o.y ∧ o.y ≤ 268435456) (hon : onE o e = false) : rgE o e - stU o e = quadO o e.q2 - quadO o e.p2 := by
  obtain ⟨ox, oy⟩ := o
  obtain ⟨px, py, qx, qy, f⟩ := e
  obtain ⟨h1, h2, h3, h4⟩ := hn
  dsimp only at *
  have r1 : rightP ⟨ox, oy⟩ = true := by simp only [rightP, Bool.and_eq_true, decide_eq_true_eq]; omega
  have r2 : rightP ⟨2 * px, 2 * py⟩ = true := by simp only [rightP, Bool.and_eq_true, decide_eq_true_eq]; omega
  have r3 : rightP ⟨2 * qx, 2 * qy⟩ = true := by simp only [rightP, Bool.and_eq_true, decide_eq_true_eq]; omega
  have hc : cross ⟨2 * px, 2 * py⟩ ⟨2 * qx, 2 * qy⟩ ⟨ox, oy⟩ = (2 * px - ox) * (2 * qy - oy) - (2 * py - oy) * (2 * qx - ox) := by
    simp only [cross, r1, r2, r3, Bool.and_true, if_true, det]
    have e1 : (2 * qx - 2 * px) = (2 * qx - ox) - (2 * px - ox) := by omega
    have e2 : (oy - 2 * py) = -(2 * py - oy) := by omega
    have e3 : (2 * qy - 2 * py) = (2 * qy - oy) - (2 * py - oy) := by omega
    have e4 : (ox - 2 * px) = -(2 * px - ox) := by omega
    rw [e1, e2, e3, e4]
    generalize 2 * px - ox = a
    generalize 2 * py - oy = b
    generalize 2 * qx - ox = c
    generalize 2 * qy - oy = d
    simp only [Int.sub_mul, Int.mul_neg]
    have m1 := Int.mul_comm b c
    have m2 := Int.mul_comm b a
    have m3 := Int.mul_comm d a
    omega
  have hon' : ¬ ((2 * px - ox) * (2 * qy - oy) - (2 * py - oy) * (2 * qx - ox) = 0 ∧ min (2 * px - ox) (2 * qx - ox) ≤ 0 ∧ 0 ≤ max (2 * px - ox) (2 * qx - ox) ∧ min (2 * py - oy) (2 * qy - oy) ≤ 0 ∧ 0 ≤ max (2 * py - oy) (2 * qy - oy)) := by
    rintro ⟨g1, g2, g3, g4, g5⟩
    have : onE ⟨ox, oy⟩ ⟨px, py, qx, qy, f⟩ = true := by
      simp only [onE, onP, Eg.p2, Eg.q2, r1, r2, r3, hc, g1, Bool.true_and, holdsB, Bool.and_eq_true, decide_eq_true_eq]
      refine ⟨rfl, ⟨⟨decide_eq_true ?_, decide_eq_true ?_⟩, decide_eq_true ?_⟩, decide_eq_true ?_⟩
      all_goals simp only [Int.min_def, Int.max_def] at g2 g3 g4 g5 ⊢
      all_goals omega
    rw [this] at hon
    cases hon
  have hT := ray_turn (a := 2 * px - ox) (b := 2 * py - oy) (c := 2 * qx - ox) (d := 2 * qy - oy) rfl rfl hon'
  simp only [quadO, Eg.p2, Eg.q2]
  rw [← hT]
  simp only [rgE, rgt, stU, Eg.p2, Eg.q2, turn, hc, rayR, rayU, cmpI]
  generalize (2 * px - ox) * (2 * qy - oy) - (2 * py - oy) * (2 * qx - ox) = D
  repeat' split
  all_goals omega

theorem sumR_one (o : Pt) (w : Eg → Int) : ∀ l : List Eg, (∀ e ∈ l, w e = 1) → sumR o w l = sumR o (fun _ => 1) l
  | [], _ => rfl
  | e :: l, h => by
    simp only [sumR, sumR_one o w l (fun e' h' => h e' (by simp [h']))]
    rw [h e (by simp)]
theorem sumR_zero (o : Pt) (w : Eg → Int) : ∀ l : List Eg, (∀ e ∈ l, w e = 0) → sumR o w l = 0
  | [], _ => rfl
  | e :: l, h => by
    simp only [sumR, sumR_zero o w l (fun e' h' => h e' (by simp [h']))]
    rw [h e (by simp)]
    omega
theorem sumR_U {o : Pt} (hx : -268435456 ≤ o.x ∧ o.x ≤ 268435456) (hy : -268435456 ≤ o.y ∧ o.y ≤ 268435456) : ∀ l : List Eg, (∀ e ∈ l, e.near) → (∀ e ∈ l, onE o e = false) → sumR o (fun _ => 1) l - sumU o l = sumQ o l
  | [], _, _ => rfl
  | e :: l, hn, hon => by
    have ih := sumR_U hx hy l (fun e' h' => hn e' (by simp [h'])) (fun e' h' => hon e' (by simp [h']))
    have h1 := step_eq (hn e (by simp)) hx hy (hon e (by simp))
    simp only [sumR, sumU, sumQ]
    omega

/-! ### The field Of -/

theorem edR_o (f : Int) (z : Pt) : ∀ l : List Pt, ∀ e ∈ edR f z l, e.o = f
  | [], e, h => by simp [edR] at h
  | [p], e, h => by simp [edR] at h; subst h; rfl
  | p :: q :: r, e, h => by
    simp only [edR, List.mem_cons] at h
    rcases h with rfl | h
    · rfl
    · exact edR_o f z (q :: r) e h
theorem edgE_o (f : Int) : ∀ rs : List Rg, ∀ e ∈ edgE f rs, e.o = f
  | [], e, h => by simp [edgE] at h
  | r :: rs, e, h => by
    simp only [edgE, List.mem_append] at h
    rcases h with h | h
    · cases hp : r.pts with
      | nil => rw [hp] at h; simp [ringE] at h
      | cons p l => rw [hp] at h; exact edR_o f p _ e h
    · exact edgE_o f rs e h
theorem edR_map (f g : Int) (z : Pt) : ∀ l : List Pt, edR f z l = (edR g z l).map fun e => { e with o := f }
  | [] => rfl
  | [p] => rfl
  | p :: q :: r => by simp only [edR, List.map_cons, ← edR_map f g z (q :: r)]; rfl
theorem edgE_map (f g : Int) : ∀ rs : List Rg, edgE f rs = (edgE g rs).map fun e => { e with o := f }
  | [] => rfl
  | r :: rs => by
    simp only [edgE, List.map_append, ← edgE_map f g rs]
    cases hp : r.pts with
    | nil => rfl
    | cons p l => simp only [ringE]; rw [edR_map f g p]
theorem windE_o (o : Pt) (f g : Int) (rs : List Rg) : windE o (edgE f rs) = windE o (edgE g rs) := by
  rw [edgE_map f g rs]
  have h1 : ∀ l : List Eg, (l.map fun e => ({ e with o := f } : Eg)).any (onE o) = l.any (onE o) := fun l => by induction l with
    | nil => rfl
    | cons e l ih => simp only [List.map_cons, List.any_cons, ih]; rfl
  have h2 : ∀ l : List Eg, sumU o (l.map fun e => ({ e with o := f } : Eg)) = sumU o l := fun l => by induction l with
    | nil => rfl
    | cons e l ih => simp only [List.map_cons, sumU, ih]; rfl
  simp only [windE, h1, h2]

/-! ### The law -/

theorem rings_law {A B : List Rg} {x y n0 n1 a b : Int} {on oA oB : Bool} (hlen : (jobE A B).length ≤ 1048576) (hn : ∀ e ∈ jobE A B, e.near) (hx : -268435456 ≤ x ∧ x ≤ 268435456) (hy : -268435456 ≤ y ∧ y ≤ 268435456)
    (h : windL (lksE (jobE A B)) ⟨x, y⟩ = ((n0, n1), on)) (hA : windE ⟨x, y⟩ (edgE 0 A) = (a, oA)) (hB : windE ⟨x, y⟩ (edgE 0 B) = (b, oB)) :
    oA = true ∨ oB = true ∨ (on = false ∧ n0 = a ∧ n1 = b) := by
  rw [windE_o ⟨x, y⟩ 0 1 B] at hB
  have ho : ∀ e ∈ jobE A B, e.o = 0 ∨ e.o = 1 := fun e he => by
    rcases List.mem_append.1 he with he | he
    · exact .inl (edgE_o 0 A e he)
    · exact .inr (edgE_o 1 B e he)
  have hr := lksE_right hlen hn ho
  have sx : small x 268435456 = true := by simp only [small, Bool.and_eq_true, decide_eq_true_eq]; omega
  have sy : small y 268435456 = true := by simp only [small, Bool.and_eq_true, decide_eq_true_eq]; omega
  by_cases qA : (edgE 0 A).any (onE ⟨x, y⟩) = true
  · left
    rw [windE, if_pos qA] at hA
    simp only [Prod.mk.injEq] at hA
    exact hA.2.symm
  by_cases qB : (edgE 1 B).any (onE ⟨x, y⟩) = true
  · right; left
    rw [windE, if_pos qB] at hB
    simp only [Prod.mk.injEq] at hB
    exact hB.2.symm
  right; right
  rw [windE, if_neg qA] at hA
  rw [windE, if_neg qB] at hB
  simp only [Prod.mk.injEq] at hA hB
  have qE : ¬ (lksE (jobE A B)).any (onL ⟨x, y⟩) = true := fun q => by
    have := on_lksE q
    rw [jobE, List.any_append, Bool.or_eq_true] at this
    rcases this with h | h
    · exact qA h
    · exact qB h
  unfold windL at h
  rw [hr] at h
  dsimp only at h
  rw [sx, sy, if_pos (by rfl), if_neg qE] at h
  simp only [Prod.mk.injEq] at h
  obtain ⟨⟨h1, h2⟩, h3⟩ := h
  have hc := cnt_lksE ⟨x, y⟩ 0 (jobE A B) 0
  rw [hc.1, jobE, sumR_append, sumR_one _ _ (edgE 0 A) (fun e he => by simp only [edgE_o 0 A e he]; rfl), sumR_zero _ _ (edgE 1 B) (fun e he => by simp only [edgE_o 1 B e he]; rfl)] at h1
  rw [hc.2, jobE, sumR_append, sumR_zero _ _ (edgE 0 A) (fun e he => edgE_o 0 A e he), sumR_one _ _ (edgE 1 B) (fun e he => edgE_o 1 B e he)] at h2
  have nA : ∀ e ∈ edgE 0 A, e.near := fun e he => hn e (List.mem_append.2 (.inl he))
  have nB : ∀ e ∈ edgE 1 B, e.near := fun e he => hn e (List.mem_append.2 (.inr he))
  have fA : ∀ e ∈ edgE 0 A, onE ⟨x, y⟩ e = false := fun e he => by
    cases hq : onE ⟨x, y⟩ e with
    | false => rfl
    | true => exact absurd (List.any_eq_true.2 ⟨e, he, hq⟩) qA
  have fB : ∀ e ∈ edgE 1 B, onE ⟨x, y⟩ e = false := fun e he => by
    cases hq : onE ⟨x, y⟩ e with
    | false => rfl
    | true => exact absurd (List.any_eq_true.2 ⟨e, he, hq⟩) qB
  have uA := sumR_U (o := ⟨x, y⟩) hx hy (edgE 0 A) nA fA
  have uB := sumR_U (o := ⟨x, y⟩) hx hy (edgE 1 B) nB fB
  rw [sumQ_edgE] at uA uB
  refine ⟨h3.symm, ?_, ?_⟩ <;> omega
end Go.Proofs.Ytinenepjloodcaa

