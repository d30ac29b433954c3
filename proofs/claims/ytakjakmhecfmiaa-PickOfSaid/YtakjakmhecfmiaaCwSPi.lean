/- PLAIN: sorting by merging and putting one by one come to the same row. CONTRACTS: the document's bounds. -/
import Derived.Test.YtakjakmhecfmiaaCwSPg
-- import Derived.Test.CwSPh
set_option linter.unusedVariables false
set_option linter.unusedSimpArgs false
set_option maxHeartbeats 8000000
set_option maxRecDepth 20000
namespace Go.Proofs.Ytakjakmhecfmiaa
open Go.Cw

theorem ahead_iff {a b : Hf} : aheadH a b = true ↔ (a.fx < b.fx ∨ a.fx = b.fx ∧ a.fy < b.fy) ∨ ((a.fx = b.fx ∧ a.fy = b.fy) ∧ (a.tx < b.tx ∨ a.tx = b.tx ∧ a.ty < b.ty)) := by
  have e1 : ∀ p q : Pt, lessP p q = true ↔ p.x < q.x ∨ p.x = q.x ∧ p.y < q.y := fun p q => by simp [lessP]
  rw [aheadH, Bool.or_eq_true, Bool.and_eq_true, e1, e1, decide_eq_true_eq]
  simp only [Hf.f, Hf.t, Pt.mk.injEq]
def leH (a b : Hf) : Prop := aheadH b a = false
theorem leH_iff {a b : Hf} : leH a b ↔ ¬ ((b.fx < a.fx ∨ b.fx = a.fx ∧ b.fy < a.fy) ∨ ((b.fx = a.fx ∧ b.fy = a.fy) ∧ (b.tx < a.tx ∨ b.tx = a.tx ∧ b.ty < a.ty))) := by
  rw [← ahead_iff, leH, Bool.not_eq_true]
theorem leH_trans {a b c : Hf} (h1 : leH a b) (h2 : leH b c) : leH a c := by rw [leH_iff] at *; omega
theorem leH_antisymm {a b : Hf} (h1 : leH a b) (h2 : leH b a) : a = b := by
  rw [leH_iff] at *
  cases a; cases b
  simp only [Hf.mk.injEq] at *
  omega
theorem leH_of_ahead {a b : Hf} (h : aheadH a b = true) : leH a b := ahead_asymm h
theorem lessH_eq (x y : Hf) : lessH x y = aheadH x y := by
  rw [lessH, hcmp_eq]
  cases h1 : aheadH y x
  · cases h2 : aheadH x y <;> simp
  · rw [ahead_asymm h1]; simp

def insL (x : Hf) : List Hf → List Hf
  | [] => [x]
  | y :: l => if aheadH x y then x :: y :: l else y :: insL x l
def putAll (l : List Hf) : List Hf := l.foldl (fun acc x => insL x acc) []

theorem insL_perm (x : Hf) : ∀ (l : List Hf), (insL x l).Perm (x :: l)
  | [] => List.Perm.refl _
  | y :: l => by
    simp only [insL]
    split
    · exact List.Perm.refl _
    · exact ((insL_perm x l).cons y).trans (List.Perm.swap x y l)
theorem insL_sorted {x : Hf} : ∀ {l : List Hf}, l.Pairwise leH → (insL x l).Pairwise leH
  | [], _ => by simp [insL]
  | y :: l, h => by
    obtain ⟨h1, h2⟩ := List.pairwise_cons.1 h
    simp only [insL]
    split
    · rename_i hx
      refine List.pairwise_cons.2 ⟨fun z hz => ?_, h⟩
      rcases List.mem_cons.1 hz with rfl | hz
      · exact leH_of_ahead hx
      · exact leH_trans (leH_of_ahead hx) (h1 z hz)
    · rename_i hx
      refine List.pairwise_cons.2 ⟨fun z hz => ?_, insL_sorted h2⟩
      rcases List.mem_cons.1 ((insL_perm x l).mem_iff.1 hz) with rfl | hz
      · simpa [leH] using hx
      · exact h1 z hz
theorem foldl_ins : ∀ (l acc : List Hf), acc.Pairwise leH → (l.foldl (fun acc x => insL x acc) acc).Pairwise leH ∧ (l.foldl (fun acc x => insL x acc) acc).Perm (l ++ acc)
  | [], acc, h => ⟨h, List.Perm.refl _⟩
  | x :: l, acc, h => by
    obtain ⟨h1, h2⟩ := foldl_ins l (insL x acc) (insL_sorted h)
    refine ⟨h1, h2.trans ?_⟩
    exact ((insL_perm x acc).append_left l).trans List.perm_middle

theorem mergeF_spec : ∀ (n : Nat) (a b : List Hf), a.length + b.length ≤ n → a.Pairwise leH → b.Pairwise leH → (mergeF lessH n a b).Pairwise leH ∧ (mergeF lessH n a b).Perm (a ++ b)
  | 0, a, b, hn, _, _ => by
    have h1 : a = [] := List.eq_nil_of_length_eq_zero (by omega)
    have h2 : b = [] := List.eq_nil_of_length_eq_zero (by omega)
    subst h1; subst h2
    simp [mergeF]
  | n + 1, [], b, _, _, hb => by simp [mergeF, hb]
  | n + 1, x :: a, [], _, ha, _ => by simp only [mergeF, List.append_nil]; exact ⟨ha, List.Perm.refl _⟩
  | n + 1, x :: a, y :: b, hn, ha, hb => by
    obtain ⟨ha1, ha2⟩ := List.pairwise_cons.1 ha
    obtain ⟨hb1, hb2⟩ := List.pairwise_cons.1 hb
    simp only [List.length_cons] at hn
    simp only [mergeF]
    split
    · rename_i h
      rw [lessH_eq] at h
      obtain ⟨i1, i2⟩ := mergeF_spec n (x :: a) b (by simp only [List.length_cons]; omega) ha hb2
      refine ⟨List.pairwise_cons.2 ⟨fun z hz => ?_, i1⟩, (i2.cons y).trans List.perm_middle.symm⟩
      have hz' := i2.mem_iff.1 hz
      rcases List.mem_append.1 hz' with hz' | hz'
      · rcases List.mem_cons.1 hz' with rfl | hz'
        · exact leH_of_ahead h
        · exact leH_trans (leH_of_ahead h) (ha1 z hz')
      · exact hb1 z hz'
    · rename_i h
      rw [lessH_eq, Bool.not_eq_true] at h
      obtain ⟨i1, i2⟩ := mergeF_spec n a (y :: b) (by simp only [List.length_cons]; omega) ha2 hb
      refine ⟨List.pairwise_cons.2 ⟨fun z hz => ?_, i1⟩, i2.cons x⟩
      have hz' := i2.mem_iff.1 hz
      rcases List.mem_append.1 hz' with hz' | hz'
      · exact ha1 z hz'
      · rcases List.mem_cons.1 hz' with rfl | hz'
        · exact h
        · exact leH_trans h (hb1 z hz')

theorem sortF_spec : ∀ (n : Nat) (l : List Hf), l.length ≤ n → (sortF lessH n l).Pairwise leH ∧ (sortF lessH n l).Perm l
  | 0, l, hn => by
    have h1 : l = [] := List.eq_nil_of_length_eq_zero (by omega)
    subst h1
    simp [sortF]
  | n + 1, l, hn => by
    simp only [sortF]
    split
    · rename_i h
      refine ⟨?_, List.Perm.refl _⟩
      match l, h with
      | [], _ => exact List.Pairwise.nil
      | [x], _ => simp
    · obtain ⟨a1, a2⟩ := sortF_spec n (l.take (l.length / 2)) (by rw [List.length_take]; omega)
      obtain ⟨b1, b2⟩ := sortF_spec n (l.drop (l.length / 2)) (by rw [List.length_drop]; omega)
      obtain ⟨c1, c2⟩ := mergeF_spec _ _ _ (Nat.le_refl _) a1 b1
      refine ⟨c1, c2.trans ?_⟩
      have := (a2.append b2)
      rw [List.take_append_drop] at this
      exact this
theorem sort_put (l : List Hf) : sortL l = putAll l := by
  obtain ⟨a1, a2⟩ := sortF_spec l.length l (Nat.le_refl _)
  obtain ⟨b1, b2⟩ := foldl_ins l [] List.Pairwise.nil
  rw [List.append_nil] at b2
  exact List.Perm.eq_of_pairwise (fun a b _ _ h1 h2 => leH_antisymm h1 h2) a1 b1 (a2.trans b2.symm)
theorem pickL_sorted {op fi : Int} (l : List Lk) (s : List Sd) : (pickL op fi l s).Pairwise leH := by
  simp only [pickL]
  split
  · exact (sortF_spec _ _ (Nat.le_refl _)).1
  · exact List.Pairwise.nil
theorem hcmp_le {a b : Hf} (h : leH a b) : hcmp a b ≤ 0 := by
  rw [hcmp_eq, show aheadH b a = false from h]
  simp only [Bool.false_eq_true, if_false]
  split <;> omega
end Go.Proofs.Ytakjakmhecfmiaa

