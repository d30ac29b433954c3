/- CONTRACTS: links turned. -/
import Derived.Test.YtinenepjloodcaaCwS8
set_option linter.unusedVariables false
set_option linter.unusedSimpArgs false
set_option maxHeartbeats 8000000
set_option maxRecDepth 20000
namespace Go.Proofs.Ytinenepjloodcaa
open Go.Cw
attribute [local irreducible] aops awp seqQ blockQ seqC loopQ endQ getB outV vecB

def Lk.ng (e : Lk) : Lk := ⟨e.px, e.py, e.qx, e.qy, 0 - e.a, 0 - e.b⟩
def Lk.al (e : Lk) : Lk := ⟨e.px, e.py, e.qx, e.qy, e.a, 0⟩
def Sd.ng (s : Sd) : Sd := ⟨0 - s.l0, 0 - s.l1, 0 - s.r0, 0 - s.r1⟩
def Sd.al (s : Sd) : Sd := ⟨s.l0, 0, s.r0, 0⟩

theorem mayL_ng (e : Lk) : mayL e.ng = mayL e := by
  have h : ∀ n : Int, small (0 - n) 1048576 = small n 1048576 := fun n => by
    simp only [small]
    by_cases h1 : -1048576 ≤ n <;> by_cases h2 : n ≤ 1048576
    all_goals (have e1 : decide (-1048576 ≤ 0 - n) = decide (n ≤ 1048576) := by congr 1; exact propext ⟨fun _ => by omega, fun _ => by omega⟩)
    all_goals (have e2 : decide (0 - n ≤ 1048576) = decide (-1048576 ≤ n) := by congr 1; exact propext ⟨fun _ => by omega, fun _ => by omega⟩)
    all_goals rw [e1, e2, Bool.and_comm]
  simp only [mayL, Lk.ng, h]
  rfl
theorem mayL_al {e : Lk} (h : mayL e = true) : mayL e.al = true := by
  simp only [mayL, Lk.al, Bool.and_eq_true] at h ⊢
  exact ⟨⟨h.1.1, by decide⟩, h.2⟩
theorem rightL_ng (l : List Lk) : rightL (l.map Lk.ng) = rightL l := by
  simp only [rightL, List.length_map, List.all_map]
  congr 1
  congr 1
  funext e
  exact mayL_ng e
theorem rightL_al {l : List Lk} (h : rightL l = true) : rightL (l.map Lk.al) = true := by
  obtain ⟨h1, h2⟩ := rightL_mem h
  simp only [rightL, List.length_map, List.all_map, Bool.and_eq_true, decide_eq_true_eq, List.all_eq_true]
  exact ⟨h1, fun e he => mayL_al (h2 e he)⟩

theorem cnt_map {s f : Lk → Int} {but : Int} {g : Lk → Lk} (hs : ∀ e, s (g e) = s e) : ∀ (l : List Lk) (i : Nat), cnt s f but (l.map g) i = cnt s (fun e => f (g e)) but l i
  | [], i => rfl
  | e :: l, i => by simp only [List.map_cons, cnt, hs, cnt_map hs l (i + 1)]
theorem cnt_neg {s f : Lk → Int} {but : Int} : ∀ (l : List Lk) (i : Nat), cnt s (fun e => 0 - f e) but l i = 0 - cnt s f but l i
  | [], i => rfl
  | e :: l, i => by
    simp only [cnt, cnt_neg l (i + 1)]
    have : s e * (0 - f e) = 0 - s e * f e := by rw [Int.mul_sub, Int.mul_zero]
    split <;> omega
theorem cnt_zero {s : Lk → Int} {but : Int} : ∀ (l : List Lk) (i : Nat), cnt s (fun _ => 0) but l i = 0
  | [], i => rfl
  | e :: l, i => by simp [cnt, cnt_zero l (i + 1)]

theorem sgR_ng (o : Pt) (e : Lk) : sgR o e.ng = sgR o e := rfl
theorem sgU_ng (o : Pt) (e : Lk) : sgU o e.ng = sgU o e := rfl
theorem sgR_al (o : Pt) (e : Lk) : sgR o e.al = sgR o e := rfl
theorem sgU_al (o : Pt) (e : Lk) : sgU o e.al = sgU o e := rfl

theorem sideK_ng (l : List Lk) (k : Nat) (e : Lk) : sideK (l.map Lk.ng) k e.ng = (sideK l k e).ng := by
  have hR : ∀ o, cA (sgR o) (l.map Lk.ng) k = 0 - cA (sgR o) l k ∧ cB (sgR o) (l.map Lk.ng) k = 0 - cB (sgR o) l k := fun o => by
    simp only [cA, cB, cnt_map (g := Lk.ng) (sgR_ng o)]; exact ⟨cnt_neg l 0, cnt_neg l 0⟩
  have hU : ∀ o, cA (sgU o) (l.map Lk.ng) k = 0 - cA (sgU o) l k ∧ cB (sgU o) (l.map Lk.ng) k = 0 - cB (sgU o) l k := fun o => by
    simp only [cA, cB, cnt_map (g := Lk.ng) (sgU_ng o)]; exact ⟨cnt_neg l 0, cnt_neg l 0⟩
  have hm : (Lk.mk e.px e.py e.qx e.qy (0 - e.a) (0 - e.b)).mid = e.mid := rfl
  simp only [sideK, Lk.ng, Sd.ng, hm, (hR _).1, (hR _).2, (hU _).1, (hU _).2]
  split
  · simp only [Sd.mk.injEq, true_and, and_true]; omega
  · split <;> (simp only [Sd.mk.injEq, true_and, and_true]; omega)
theorem sideK_al (l : List Lk) (k : Nat) (e : Lk) : sideK (l.map Lk.al) k e.al = (sideK l k e).al := by
  have hR : ∀ o, cA (sgR o) (l.map Lk.al) k = cA (sgR o) l k ∧ cB (sgR o) (l.map Lk.al) k = 0 := fun o => by
    simp only [cA, cB, cnt_map (g := Lk.al) (sgR_al o)]; exact ⟨rfl, cnt_zero l 0⟩
  have hU : ∀ o, cA (sgU o) (l.map Lk.al) k = cA (sgU o) l k ∧ cB (sgU o) (l.map Lk.al) k = 0 := fun o => by
    simp only [cA, cB, cnt_map (g := Lk.al) (sgU_al o)]; exact ⟨rfl, cnt_zero l 0⟩
  have hm : (Lk.mk e.px e.py e.qx e.qy e.a 0).mid = e.mid := rfl
  simp only [sideK, Lk.al, Sd.al, hm, (hR _).1, (hR _).2, (hU _).1, (hU _).2]
  split
  · simp
  · split <;> simp
theorem sidesFrom_map {g : Lk → Lk} {h : Sd → Sd} {l l' : List Lk} (hs : ∀ k e, sideK l' k (g e) = h (sideK l k e)) : ∀ (r : List Lk) (k : Nat), sidesFrom l' (r.map g) k = (sidesFrom l r k).map h
  | [], k => rfl
  | e :: r, k => by simp only [List.map_cons, sidesFrom, hs, sidesFrom_map hs r (k + 1)]
theorem sidesL_ng (l : List Lk) : sidesL (l.map Lk.ng) = (sidesL l).map Sd.ng := by
  simp only [sidesL, rightL_ng]
  split
  · exact sidesFrom_map (sideK_ng l) l 0
  · rfl
theorem sidesL_al {l : List Lk} (h : rightL l = true) : sidesL (l.map Lk.al) = (sidesL l).map Sd.al := by
  simp only [sidesL, rightL_al h, h, if_true]
  exact sidesFrom_map (sideK_al l) l 0
theorem windL_ng (l : List Lk) (o : Pt) : windL (l.map Lk.ng) o = ((0 - (windL l o).1.1, 0 - (windL l o).1.2), (windL l o).2) := by
  have ha : (l.map Lk.ng).any (onL o) = l.any (onL o) := by rw [List.any_map]; rfl
  simp only [windL, rightL_ng, ha, cnt_map (g := Lk.ng) (sgR_ng o)]
  split
  · split
    · rfl
    · simp only [Prod.mk.injEq, and_true]; exact ⟨cnt_neg l 0, cnt_neg l 0⟩
  · rfl
theorem sidesFrom_len (l : List Lk) : ∀ (r : List Lk) (k : Nat), (sidesFrom l r k).length = r.length
  | [], _ => rfl
  | e :: r, k => by simp [sidesFrom, sidesFrom_len l r (k + 1)]

theorem sideK_bd {l : List Lk} (hl : rightL l = true) (k : Nat) (e : Lk) (he : mayL e = true) : (-2199023255552 ≤ (sideK l k e).l0 ∧ (sideK l k e).l0 ≤ 2199023255552) ∧ (-2199023255552 ≤ (sideK l k e).l1 ∧ (sideK l k e).l1 ≤ 2199023255552) ∧ (-2199023255552 ≤ (sideK l k e).r0 ∧ (sideK l k e).r0 ≤ 2199023255552) ∧ (-2199023255552 ≤ (sideK l k e).r1 ∧ (sideK l k e).r1 ≤ 2199023255552) := by
  have hA : ∀ s : Lk → Int, (∀ e, -1 ≤ s e ∧ s e ≤ 1) → -1099511627776 ≤ cA s l k ∧ cA s l k ≤ 1099511627776 := fun s hs => cnt_bd' hs hl (fun e he => (mayL_b he).2.2.2.2.1)
  have hB : ∀ s : Lk → Int, (∀ e, -1 ≤ s e ∧ s e ≤ 1) → -1099511627776 ≤ cB s l k ∧ cB s l k ≤ 1099511627776 := fun s hs => cnt_bd' hs hl (fun e he => (mayL_b he).2.2.2.2.2)
  have h1 := hA _ (sgR_b e.mid)
  have h2 := hB _ (sgR_b e.mid)
  have h3 := hA _ (sgU_b e.mid)
  have h4 := hB _ (sgU_b e.mid)
  have h5 := mayL_b he
  simp only [sideK]
  split
  · simp only; omega
  · split <;> (simp only; omega)
theorem sidesFrom_mem (l : List Lk) : ∀ (r : List Lk) (k : Nat), ∀ s ∈ sidesFrom l r k, ∃ j, ∃ e ∈ r, s = sideK l j e
  | [], _, s, h => by cases h
  | e :: r, k, s, h => by
    rcases List.mem_cons.1 h with h | h
    · exact ⟨k, e, by simp, h⟩
    · obtain ⟨j, e', he, hs⟩ := sidesFrom_mem l r (k + 1) s h
      exact ⟨j, e', by simp [he], hs⟩
theorem sidesL_bd {l : List Lk} (hl : rightL l = true) : ∀ s ∈ sidesL l, (-2199023255552 ≤ s.l0 ∧ s.l0 ≤ 2199023255552) ∧ (-2199023255552 ≤ s.l1 ∧ s.l1 ≤ 2199023255552) ∧ (-2199023255552 ≤ s.r0 ∧ s.r0 ≤ 2199023255552) ∧ (-2199023255552 ≤ s.r1 ∧ s.r1 ≤ 2199023255552) := by
  intro s hs
  simp only [sidesL, hl, if_true] at hs
  obtain ⟨j, e, he, rfl⟩ := sidesFrom_mem l l 0 s hs
  exact sideK_bd hl j e ((rightL_mem hl).2 e he)
theorem windL_bd (l : List Lk) (o : Pt) : (-1099511627776 ≤ (windL l o).1.1 ∧ (windL l o).1.1 ≤ 1099511627776) ∧ (-1099511627776 ≤ (windL l o).1.2 ∧ (windL l o).1.2 ≤ 1099511627776) := by
  simp only [windL]
  split
  · rename_i h
    simp only [Bool.and_eq_true] at h
    split
    · simp
    · exact ⟨cnt_bd' (sgR_b o) h.1.1 (fun e he => (mayL_b he).2.2.2.2.1), cnt_bd' (sgR_b o) h.1.1 (fun e he => (mayL_b he).2.2.2.2.2)⟩
  · simp
end Go.Proofs.Ytinenepjloodcaa

