/- EACH OPERATION IS SOUND: alloc, box, build, load, store, addresses. -/
import Derived.Test.YtinenepjloodcaaCwD
namespace Go.Cw

section
variable {P : Program}

theorem zeroCellsOf_sound {e : TypeId} {z : List AV} (h : zeroCellsOf P e = some z) (w : World) : ∃ i zv, P.info? e = some i ∧ i.zero = some zv ∧ zv.cells.size = i.size ∧ (zeroValue e).run P w = .ok zv w ∧
    (∀ (G : Gh) (w : World), RepL G w z zv.cells.toList) ∧ (∀ v ∈ zv.cells.toList, v.oneCell' = true) ∧ z.length = i.size := by
  unfold zeroCellsOf at h
  split at h
  · rename_i i hi
    split at h
    · rename_i zv hz
      split at h
      · rename_i hs
        have ha := fun (G : Gh) (w : World) => absCells_sound h G w
        have hl : z.length = i.size := by rw [(ha ⟨fun _ => true, fun _ _ => .free, fun _ => 0, fun _ => ⟨none, 0, 0, 0⟩⟩ w).1.1, Array.length_toList, hs]
        exact ⟨i, zv, hi, hz, hs, by simp [zeroValue, typeInfo, hi, hz], fun G w => (ha G w).1, (ha ⟨fun _ => true, fun _ _ => .free, fun _ => 0, fun _ => ⟨none, 0, 0, 0⟩⟩ w).2, hl⟩
      · cases h
    · cases h
  · cases h

theorem run_newVar (e : TypeId) (v : Value) (w : World) : (do pure (.pointer (some (← newVar e v))) : Sem Value).run P w = .ok (.pointer (some ⟨w.heap.size, 0, none⟩)) (w.alloc (.cells v.cells e)) := by
  simp [newVar, newRow]

theorem run_alloc {e : TypeId} {zv : Value} {w : World} (h : (zeroValue e).run P w = .ok zv w) : (Instr.alloc e true (.tuple #[])).run P w = .ok (.pointer (some ⟨w.heap.size, 0, none⟩)) (w.alloc (.cells zv.cells e)) := by
  simp [Instr.alloc, h, newVar, newRow]

theorem run_box (e : TypeId) (v : Value) (w : World) : (Instr.box e v).run P w = .ok (.pointer (some ⟨w.heap.size, 0, none⟩)) (w.alloc (.cells v.cells e)) := by
  simp [Instr.box, newVar, newRow]

/-! ### build -/

theorem foldl_set (off : Nat) : ∀ (l : List Value) (k : Nat) (arr : Array Value), off + k + l.length ≤ arr.size →
    ((l.zipIdx k).foldl (fun cs (x : Value × Nat) => cs.setIfInBounds (off + x.2) x.1) arr).toList = arr.toList.take (off + k) ++ l ++ arr.toList.drop (off + k + l.length)
  | [], k, arr, _ => by simp
  | c :: l, k, arr, h => by
    simp only [List.zipIdx_cons, List.foldl_cons]
    rw [foldl_set off l (k + 1) _ (by simp at h ⊢; omega)]
    simp only [Array.toList_setIfInBounds, List.length_cons]
    have := list_seg_step arr.toList (off + k) c l (by simp at h ⊢; omega)
    rw [show off + (k + 1) = off + k + 1 by omega]
    exact this

theorem fill_sound {G : Gh} {w : World} {place : Nat → Option (Nat × Nat)} : ∀ {parts : List (Nat × Value)} {ps : List (Nat × Nat × AV)} {z cs : List AV} {cells : Array Value},
    (parts.length = ps.length) → (∀ (j : Nat) q p, parts[j]? = some q → ps[j]? = some p → place q.1 = some (p.1, p.2.1) ∧ Rep G w p.2.2 q.2) → RepL G w z cells.toList → (∀ v ∈ cells.toList, v.oneCell' = true) → fillA z ps = some cs →
    ∃ cells', Instr.fill place cells parts = some cells' ∧ RepL G w cs cells'.toList ∧ ∀ v ∈ cells'.toList, v.oneCell' = true
  | [], ps, z, cs, cells, hl, _, hz, h1, h => by
    have : ps = [] := List.eq_nil_of_length_eq_zero (by simpa using hl.symm)
    subst this
    simp only [fillA, Option.some.injEq] at h
    subst h
    exact ⟨cells, rfl, hz, h1⟩
  | (i, v) :: parts, ps, z, cs, cells, hl, hp, hz, h1, h => by
    cases ps with
    | nil => simp at hl
    | cons p ps =>
      obtain ⟨off, size, x⟩ := p
      obtain ⟨e1, e2⟩ := hp 0 _ _ rfl rfl
      simp only at e1 e2
      simp only [fillA] at h
      split at h
      · cases h
      · rename_i ds hds
        split at h
        · rename_i hsz
          obtain ⟨r1, r2⟩ := rep_cells hds e2
          have hvs : v.cells.size = size := by rw [← Array.length_toList, ← r1.1]; exact hsz.1
          have hcs : z.length = cells.size := by rw [hz.1, Array.length_toList]
          have hf := foldl_set off v.cells.toList 0 cells (by simp [hvs]; omega)
          simp only [Nat.add_zero, Array.length_toList, hvs] at hf
          have hf' : (v.cells.zipIdx.foldl (fun cs (x : Value × Nat) => cs.setIfInBounds (off + x.2) x.1) cells).toList = cells.toList.take off ++ v.cells.toList ++ cells.toList.drop (off + size) := by
            rw [← hf, ← Array.foldl_toList, Array.toList_zipIdx]
          have hR : RepL G w (z.take off ++ ds ++ z.drop (off + size)) (cells.toList.take off ++ v.cells.toList ++ cells.toList.drop (off + size)) := by
            refine RepL.append (RepL.append ?_ r1) ?_
            · exact ⟨by simp [hz.1], fun i c v h1 h2 => by
                simp only [List.getElem?_take] at h1 h2
                split at h1
                · rename_i hi; rw [if_pos hi] at h2; exact hz.2 i c v h1 h2
                · cases h1⟩
            · exact ⟨by simp [hz.1], fun i c v h1 h2 => by
                simp only [List.getElem?_drop] at h1 h2
                exact hz.2 _ c v h1 h2⟩
          obtain ⟨cells', f1, f2, f3⟩ := fill_sound (parts := parts) (ps := ps) (z := z.take off ++ ds ++ z.drop (off + size)) (cs := cs)
            (cells := v.cells.zipIdx.foldl (fun cs (x : Value × Nat) => cs.setIfInBounds (off + x.2) x.1) cells) (by simpa using hl)
            (fun j q p h1 h2 => hp (j + 1) q p (by simpa using h1) (by simpa using h2)) (by rw [hf']; exact hR)
            (by rw [hf']; intro u hu
                simp only [List.append_assoc, List.mem_append] at hu
                rcases hu with hu | hu | hu
                · exact h1 u (List.mem_of_mem_take hu)
                · exact r2 u hu
                · exact h1 u (List.mem_of_mem_drop hu)) h
          refine ⟨cells', ?_, f2, f3⟩
          simp only [Instr.fill, e1]
          rw [if_neg (by simp [hvs]; omega)]
          exact f1
        · cases h

theorem partsOf_sound {place : Nat → Option (Nat × Nat)} : ∀ {parts : List (Nat × Operand)} {ps : List (Nat × Nat × Opd)}, partsOf place parts = some ps → ∀ {G : Gh} {w : World} {F : Nat → AV} {a : Act}, FRep G w F a →
    (parts.map fun q => (q.1, a.eval q.2)).length = (ps.map fun q => (q.1, q.2.1, evalO F q.2.2)).length ∧
    ∀ (j : Nat) q p, (parts.map fun q => (q.1, a.eval q.2))[j]? = some q → (ps.map fun q => (q.1, q.2.1, evalO F q.2.2))[j]? = some p → place q.1 = some (p.1, p.2.1) ∧ Rep G w p.2.2 q.2
  | [], ps, h, _, _, _, _, _ => by
    simp only [partsOf, Option.some.injEq] at h
    subst h
    simp
  | (i, x) :: rest, ps, h, _, _, F, a, hF => by
    simp only [partsOf] at h
    split at h
    · rename_i off size y ys h1 h2 h3
      simp only [Option.some.injEq] at h
      subst h
      obtain ⟨e1, e2⟩ := partsOf_sound h3 hF
      refine ⟨by simpa using e1, fun j q p hq hp => ?_⟩
      cases j with
      | zero =>
        simp only [List.map_cons, List.getElem?_cons_zero, Option.some.injEq] at hq hp
        subst hq; subst hp
        exact ⟨h1, opd_sound h2 hF⟩
      | succ j =>
        simp only [List.map_cons, List.getElem?_cons_succ] at hq hp
        exact e2 j q p hq hp
    · cases h

theorem run_places : ∀ (fs : List Field) (pl : List (Nat × Nat)) (w : World), fieldPlaces P fs = some pl → (fs.mapM fun f => do pure (f.offset, ← sizeOf f.type) : Sem (List (Nat × Nat))).run P w = .ok pl w
  | [], pl, w, h => by simp only [fieldPlaces, Option.some.injEq] at h; subst h; simp
  | f :: fs, pl, w, h => by
    simp only [fieldPlaces] at h
    split at h
    · rename_i s r h1 h2
      simp only [Option.some.injEq] at h
      subst h
      simp only [sizeT, Option.map_eq_some_iff] at h1
      obtain ⟨i, hi, rfl⟩ := h1
      have hh : (do pure (f.offset, ← sizeOf f.type) : Sem (Nat × Nat)).run P w = .ok (f.offset, i.size) w := by simp [sizeOf, typeInfo, hi]
      rw [List.mapM_cons, Sem.run_bind, hh, Result.andThen_ok, Sem.run_bind, run_places fs r w h2, Result.andThen_ok, Sem.run_pure]
    · cases h

theorem run_build_struct {t : TypeId} {fs : Array Field} {zv : Value} {pl : List (Nat × Nat)} {parts : Array (Nat × Value)} {cells : Array Value} {w : World} (hu : P.underlying t = some (.struct fs)) (hz : (zeroValue t).run P w = .ok zv w)
    (hp : fieldPlaces P fs.toList = some pl) (hf : Instr.fill (fun i => pl[i]?) zv.cells parts.toList = some cells) : (Instr.build t parts).run P w = .ok (.agg cells) w := by
  have hm : (fs.mapM fun f => do pure (f.offset, ← sizeOf f.type) : Sem (Array (Nat × Nat))).run P w = .ok pl.toArray w := by
    rw [Array.mapM_eq_mapM_toList]
    simp only [Sem.run_map, run_places fs.toList pl w hp, Result.andThen_ok]
  have hq : Instr.fill (fun i => pl.toArray[i]?) zv.cells parts.toList = some cells := by simpa using hf
  simp only [Instr.build, Sem.run_bind, hz, Result.andThen_ok, run_underlying hu, hm, hq, Sem.run_pure]

theorem run_build_array {t e : TypeId} {n s : Nat} {zv : Value} {parts : Array (Nat × Value)} {cells : Array Value} {w : World} (hu : P.underlying t = some (.array n e)) (hz : (zeroValue t).run P w = .ok zv w)
    (hs : sizeT P e = some s) (hf : Instr.fill (fun i => some (i * s, s)) zv.cells parts.toList = some cells) : (Instr.build t parts).run P w = .ok (.agg cells) w := by
  simp only [sizeT, Option.map_eq_some_iff] at hs
  obtain ⟨i, hi, rfl⟩ := hs
  simp only [Instr.build, Sem.run_bind, hz, Result.andThen_ok, run_underlying hu, sizeOf, typeInfo, run_program, hi, Sem.run_pure, hf]

/-! ### buildSlice -/

theorem rep_cells_eq (zs : List Value) (hz : zs ≠ []) : ∀ len : Nat, ((List.range (len * zs.length)).map fun i => zs.toArray[i % zs.toArray.size]!) = (List.replicate len zs).flatten
  | 0 => by simp
  | len + 1 => by
    have hpos : 0 < zs.length := List.length_pos_iff.2 hz
    rw [List.replicate_succ', List.flatten_append, ← rep_cells_eq zs hz len, Nat.add_mul, Nat.one_mul, List.range_add, List.map_append]
    congr 1
    simp only [List.flatten_cons, List.flatten_nil, List.append_nil, List.map_map]
    apply List.ext_getElem?
    intro j
    simp only [List.getElem?_map, Function.comp_def]
    by_cases hj : j < zs.length
    · rw [List.getElem?_range hj]
      simp [Nat.mod_eq_of_lt hj, hj]
    · rw [List.getElem?_eq_none (by simpa using hj), List.getElem?_eq_none (by simpa using hj)]
      rfl

theorem RepL.replicate {G : Gh} {w : World} {z : List AV} {zs : List Value} (h : RepL G w z zs) : ∀ n : Nat, RepL G w (List.replicate n z).flatten (List.replicate n zs).flatten
  | 0 => by simpa using RepL.nil G w
  | n + 1 => by simpa [List.replicate_succ] using h.append (RepL.replicate h n)

theorem run_buildSlice {t e : TypeId} {i : TypeInfo} {zv : Value} {len : Nat} {parts : Array (Nat × Value)} {cells : Array Value} {w : World} (hu : P.underlying t = some (.slice e)) (hi : P.info? e = some i)
    (hz : (zeroValue e).run P w = .ok zv w) (hsz : zv.cells.size = i.size) (hpos : 0 < i.size) (hlim : len * i.size ≤ 2 ^ 24)
    (hf : Instr.fill (fun j => some (j * i.size, i.size)) (List.replicate len zv.cells.toList).flatten.toArray parts.toList = some cells) :
    (Instr.buildSlice t len parts).run P w = .ok (.slice (some ⟨w.heap.size, 0, none⟩) len len) (w.alloc (.cells cells e)) := by
  have hl : ¬ (len * i.size > 2 ^ 24) := by omega
  have hne : zv.cells.toList ≠ [] := fun h => by
    have : zv.cells.size = 0 := by rw [← Array.length_toList, h]; rfl
    omega
  have hq : ((Array.range (len * i.size)).map fun j => zv.cells[j % zv.cells.size]!) = (List.replicate len zv.cells.toList).flatten.toArray := by
    apply Array.ext'
    simp only [Array.toList_map, Array.toList_range]
    have := rep_cells_eq zv.cells.toList hne len
    simp only [Array.length_toList, hsz, Array.toArray_toList] at this
    rw [← this, hsz]
  by_cases h0 : len * i.size = 0
  · have hlen : len = 0 := by
      rcases Nat.mul_eq_zero.1 h0 with h | h
      · exact h
      · omega
    subst hlen
    simp only [Instr.buildSlice, Sem.run_bind, run_underlying hu, Result.andThen_ok, sizeOf, typeInfo, run_program, hi, Sem.run_pure, Sem.run_ite]
    simp only [Nat.zero_mul] at hq hf ⊢
    simp [Array.range] at hq hf ⊢
    rw [hf]
    simp [newRow]
  · simp only [Instr.buildSlice, Sem.run_bind, run_underlying hu, Result.andThen_ok, sizeOf, typeInfo, run_program, hi, Sem.run_pure, Sem.run_ite, if_neg hl, if_neg h0, hz]
    rw [hq, hf]
    simp [newRow]

end
end Go.Cw
