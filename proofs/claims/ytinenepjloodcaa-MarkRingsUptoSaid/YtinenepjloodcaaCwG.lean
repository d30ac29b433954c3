/- EACH OPERATION IS SOUND: load, store, addresses of parts, slicing, length. -/
import Derived.Test.YtinenepjloodcaaCwF
namespace Go.Cw

section
variable {P : Program} {G : Gh} {S : St} {w : World} {id : Nat} {K : AV → St → Prop}

/-! ### New memory -/

theorem ok_alloc (hS : Sim G S w) (hid : G.live id = false) (hn : id < S.n) {e : TypeId} {z : List AV} (h : zeroCellsOf P e = some z) (hK : K (.ptr id 0) (S.put id (.cells z))) :
    OkRun G S w id K ((Instr.alloc e true (.tuple #[])).run P w) := by
  obtain ⟨i, zv, hi, hz, hs, hr, hR, h1, hl⟩ := zeroCellsOf_sound h w
  rw [run_alloc hr]
  have := okNewCells hS hid hn (hR G w) h1 e hK
  simpa using this

theorem ok_box (hS : Sim G S w) (hid : G.live id = false) (hn : id < S.n) (e : TypeId) {x : AV} {v : Value} {cs : List AV} (hx : x.cells = some cs) (hr : Rep G w x v) (hK : K (.ptr id 0) (S.put id (.cells cs))) :
    OkRun G S w id K ((Instr.box e v).run P w) := by
  obtain ⟨r1, r2⟩ := rep_cells hx hr
  rw [run_box]
  have := okNewCells hS hid hn r1 r2 e hK
  simpa using this

theorem toPVs_sound : ∀ {cs : List AV} {l : List PV}, toPVs cs = some l → ∀ {G : Gh} {w : World} {vs : List Value}, RepL G w cs vs → l.length = vs.length ∧ ∀ (i : Nat) c v, l[i]? = some c → vs[i]? = some v → RepP G.cls w c v
  | [], l, h, _, _, vs, hr => by
    simp only [toPVs, Option.some.injEq] at h
    subst h
    rw [hr.nil_inv]
    simp
  | x :: xs, l, h, _, _, vs, hr => by
    simp only [toPVs] at h
    split at h
    · rename_i c cs h1 h2
      simp only [Option.some.injEq] at h
      subst h
      obtain ⟨v, vs', rfl, r1, r2⟩ := hr.uncons
      obtain ⟨e1, e2⟩ := toPVs_sound h2 r2
      refine ⟨by simp [e1], fun i c' v' hc hv => ?_⟩
      cases i with
      | zero => simp at hc hv; subst hc; subst hv; exact rep_toPV h1 r1
      | succ i => simp at hc hv; exact e2 i _ _ hc hv
    · cases h

theorem chunk_length (sz : Nat) : ∀ (n : Nat) (l : List PV), (chunk sz n l).length = n
  | 0, _ => rfl
  | n + 1, l => by simp [chunk, chunk_length sz n]

theorem chunk_get (sz : Nat) : ∀ (n : Nat) (l : List PV) (i : Nat) x, (chunk sz n l)[i]? = some x → x = (l.drop (i * sz)).take sz
  | 0, _, _, _, h => by simp [chunk] at h
  | n + 1, l, i, x, h => by
    cases i with
    | zero => simp [chunk] at h; simp [← h]
    | succ i =>
      simp only [chunk, List.getElem?_cons_succ] at h
      rw [chunk_get sz n _ i x h, List.drop_drop]
      congr 2
      rw [Nat.add_mul, Nat.one_mul, Nat.add_comm]

/-- Cells of a slice that was made by listing it. -/
theorem repP_chunk {cls : Nat → Nat → Cls} {b sz len : Nat} {l : List PV} (hl : l.length = len * sz) (hc : ∀ (j : Nat) c, l[j]? = some c → cls b j = .settled ∧ ∃ v, w.cell? ⟨b, j, none⟩ = some v ∧ RepP cls w c v) :
    RepP cls w (.sl false (chunk sz len l)) (.slice (some ⟨b, 0, none⟩) len len) := by
  have := repP_mk (cls := cls) (w := w) (b := b) (off := 0) (cap := len) (wd := sz) (xs := chunk sz len l) (by rw [chunk_length]; exact Nat.le_refl _)
    (fun i x hx => by
      have hi : i < len := by rw [← chunk_length sz len l]; exact (List.getElem?_eq_some_iff.1 hx).1
      rw [chunk_get sz len l i x hx]
      simp only [List.length_take, List.length_drop, hl]
      have : i * sz + sz ≤ len * sz := by rw [← Nat.succ_mul]; exact Nat.mul_le_mul_right _ hi
      omega)
    (fun i x j c hx hj => by
      rw [chunk_get sz len l i x hx] at hj
      simp only [List.getElem?_take, List.getElem?_drop] at hj
      split at hj
      · simpa using hc _ c hj
      · cases hj)
  rw [chunk_length] at this
  exact this

theorem ok_bslice (hS : Sim G S w) {t e : TypeId} {i : TypeInfo} {zv : Value} {len : Nat} {parts : Array (Nat × Value)} {ps : List (Nat × Nat × AV)} {z cs : List AV} {l : List PV} (hu : P.underlying t = some (.slice e)) (hi : P.info? e = some i)
    (hz : (zeroValue e).run P w = .ok zv w) (hsz : zv.cells.size = i.size) (hpos : 0 < i.size) (hlim : len * i.size ≤ 2 ^ 24)
    (hzr : RepL G w z zv.cells.toList) (hz1 : ∀ v ∈ zv.cells.toList, v.oneCell' = true)
    (hl : parts.toList.length = ps.length) (hp : ∀ (j : Nat) q p, parts.toList[j]? = some q → ps[j]? = some p → (fun j => some (j * i.size, i.size)) q.1 = some (p.1, p.2.1) ∧ Rep G w p.2.2 q.2)
    (hf : fillA (List.replicate len z).flatten ps = some cs) (hl' : toPVs cs = some l) (hlen : l.length = len * i.size) (hK : K (.sl false (chunk i.size len l) .full) S) :
    OkRun G S w id K ((Instr.buildSlice t len parts).run P w) := by
  have hzz := RepL.replicate hzr len
  obtain ⟨cells, f1, f2, f3⟩ := fill_sound (place := fun j => some (j * i.size, i.size)) (cells := (List.replicate len zv.cells.toList).flatten.toArray) hl hp (by simpa using hzz)
    (by simp only [List.mem_flatten, List.mem_replicate]; rintro v ⟨l, ⟨_, rfl⟩, hv⟩; exact hz1 v hv) hf
  rw [run_buildSlice hu hi hz hsz hpos hlim f1]
  obtain ⟨g1, g2⟩ := toPVs_sound hl' f2
  let c : Nat → Cls := fun o => if o < cells.size then .settled else .free
  have hcell : ∀ j, (w.alloc (.cells cells e)).cell? ⟨w.heap.size, j, none⟩ = cells[j]? := fun j => by simp
  obtain ⟨h2, h3⟩ := newSettled hS c (.cells cells e) (fun off h => by
    simp only [c] at h
    split at h
    · rename_i hlt; rw [hcell]; simp [hlt]
    · cases h) (fun off k h => by simp only [c] at h; split at h <;> cases h)
  refine ⟨_, _, _, S, _, rfl, hK, h2, h3, .sl (repP_chunk hlen fun j cc hj => ?_) ⟨some ⟨w.heap.size, 0, none⟩, ?_⟩, fun _ h => .inl h⟩
  · have hj' : j < cells.size := by rw [← Array.length_toList, ← g1]; exact (List.getElem?_eq_some_iff.1 hj).1
    refine ⟨by simp [Gh.ext, c, hj'], cells[j], by rw [hcell]; simp [hj'], ?_⟩
    exact (g2 j cc cells[j] hj (by simp [hj'])).mono h2.settled h2.pres
  · rw [chunk_length]

/-! ### load -/

theorem isAggT_run {t : TypeId} {b : Bool} (h : isAggT P t = some b) (w : World) : (isAgg t).run P w = .ok b w := by
  unfold isAggT at h
  split at h
  · rename_i hu; simp only [Option.some.injEq] at h; subst h; simp [isAgg, run_underlying hu]
  · rename_i hu; simp only [Option.some.injEq] at h; subst h; simp [isAgg, run_underlying hu]
  · rename_i d h1 h2 hu
    simp only [Option.some.injEq] at h; subst h
    rw [isAgg, Sem.run_bind, run_underlying hu, Result.andThen_ok]
    cases d <;> simp_all
  · cases h

theorem sizeT_run {t : TypeId} {n : Nat} (h : sizeT P t = some n) (w : World) : (sizeOf t).run P w = .ok n w := by
  simp only [sizeT, Option.map_eq_some_iff] at h
  obtain ⟨i, hi, rfl⟩ := h
  simp [sizeOf, typeInfo, hi]

theorem ok_load1 (hS : Sim G S w) {t : TypeId} (ht : isAggT P t = some false) {b o : Nat} {cv : Value} (hc : w.cell? ⟨b, o, none⟩ = some cv) {x : AV} (hr : Rep G w x cv) (hK : K x S) :
    OkRun G S w id K ((Instr.loadAt t (.pointer (some ⟨b, o, none⟩))).run P w) := by
  have : (Instr.loadAt t (.pointer (some ⟨b, o, none⟩))).run P w = .ok cv w := by
    simp [Instr.loadAt, Instr.sureAddr, loadVar, isAggT_run ht, hc]
  rw [this]
  exact okSame hS hK hr

theorem ok_loadA (hS : Sim G S w) {t : TypeId} (ht : isAggT P t = some true) {n : Nat} (hn : sizeT P t = some n) {b o : Nat} {cs : List AV} {vs : List Value} (hl : vs.length = n)
    (hc : ∀ (j : Nat) v, vs[j]? = some v → w.cell? ⟨b, o + j, none⟩ = some v) (hr : RepL G w cs vs) (h1 : ∀ v ∈ vs, v.oneCell' = true) (hK : K (.agg cs) S) :
    OkRun G S w id K ((Instr.loadAt t (.pointer (some ⟨b, o, none⟩))).run P w) := by
  have hload := run_loadCells_list (P := P) w ⟨b, o, none⟩ vs (fun j v hv => by rw [add_none]; exact hc j v hv)
  have : (Instr.loadAt t (.pointer (some ⟨b, o, none⟩))).run P w = .ok (.agg vs.toArray) w := by
    simp [Instr.loadAt, Instr.sureAddr, loadVar, isAggT_run ht, sizeT_run hn, ← hl, hload]
  rw [this]
  exact okSame hS hK (.agg hr.1 hr.2 h1)

theorem blk_cells {k : Nat} {cs : List AV} (hS : Sim G S w) (h : S.H k = some (.cells cs)) : ∃ vs e, w.heap[G.ptr k]? = some (.cells vs e (0, 0)) ∧ RepL G w cs vs.toList ∧ (∀ v ∈ vs.toList, v.oneCell' = true) ∧ (∀ o, G.cls (G.ptr k) o = .own k) ∧
    ∀ (j : Nat) , w.cell? ⟨G.ptr k, j, none⟩ = vs[j]? := by
  obtain ⟨_, vs, e, h1, h2, h3, h4⟩ := hS.blk k _ h
  exact ⟨vs, e, h1, h2, h3, h4, fun j => by simp [World.cell?, h1]⟩

theorem ok_load1_ptr (hS : Sim G S w) {t : TypeId} (ht : isAggT P t = some false) {k o : Nat} {cs : List AV} {c : AV} (hk : S.H k = some (.cells cs)) (hc : cs[o]? = some c) (hK : K c S) :
    OkRun G S w id K ((Instr.loadAt t (.pointer (some ⟨G.ptr k, o, none⟩))).run P w) := by
  obtain ⟨vs, e, h1, h2, h3, h4, h5⟩ := blk_cells hS hk
  obtain ⟨v, hv, hr⟩ := h2.get o c hc
  exact ok_load1 hS ht (by rw [h5]; simpa using hv) hr hK

theorem ok_loadA_ptr (hS : Sim G S w) {t : TypeId} (ht : isAggT P t = some true) {n : Nat} (hn : sizeT P t = some n) {k o : Nat} {cs : List AV} (hk : S.H k = some (.cells cs)) (hc : o + n ≤ cs.length) (hK : K (.agg ((cs.drop o).take n)) S) :
    OkRun G S w id K ((Instr.loadAt t (.pointer (some ⟨G.ptr k, o, none⟩))).run P w) := by
  obtain ⟨vs, e, h1, h2, h3, h4, h5⟩ := blk_cells hS hk
  have hlen : cs.length = vs.size := by simpa using h2.1
  refine ok_loadA hS ht hn (vs := (vs.toList.drop o).take n) (cs := (cs.drop o).take n) (by simp; omega) (fun j v hv => ?_) ⟨by simp [hlen], fun i c v hc hv => ?_⟩ (fun v hv => h3 v (List.mem_of_mem_drop (List.mem_of_mem_take hv))) hK
  · rw [h5]
    simp only [List.getElem?_take, List.getElem?_drop] at hv
    split at hv
    · simpa using hv
    · cases hv
  · simp only [List.getElem?_take, List.getElem?_drop] at hc hv
    split at hc
    · rename_i hi; rw [if_pos hi] at hv; exact h2.2 _ c v hc hv
    · cases hc

theorem rep_ref {cs : List PV} {o : Nat} {v : Value} (h : Rep G w (.ref cs o) v) : ∃ b off, v = .pointer (some ⟨b, off + o, none⟩) ∧ ∀ (j : Nat) c, cs[j]? = some c → G.cls b (off + j) = .settled ∧ ∃ u, w.cell? ⟨b, off + j, none⟩ = some u ∧ RepP G.cls w c u := by
  cases h with
  | @ref _ _ b off f hc hr => exact ⟨b, off, rfl, fun j c hj => ⟨(hc j c hj).1, f j, (hc j c hj).2, hr j c hj⟩⟩

theorem rep_ref_mk {cs : List PV} {o b off : Nat} (h : ∀ (j : Nat) c, cs[j]? = some c → G.cls b (off + j) = .settled ∧ ∃ u, w.cell? ⟨b, off + j, none⟩ = some u ∧ RepP G.cls w c u) : Rep G w (.ref cs o) (.pointer (some ⟨b, off + o, none⟩)) := by
  refine .ref (fun j => (w.cell? ⟨b, off + j, none⟩).getD undef) (fun j c hj => ?_) (fun j c hj => ?_)
  · obtain ⟨h1, u, h2, _⟩ := h j c hj; exact ⟨h1, by rw [h2]; rfl⟩
  · obtain ⟨h1, u, h2, h3⟩ := h j c hj; rw [h2]; exact h3

theorem ok_load1_ref (hS : Sim G S w) {t : TypeId} (ht : isAggT P t = some false) {cs : List PV} {o : Nat} {v : Value} {c : PV} (hr : Rep G w (.ref cs o) v) (hc : cs[o]? = some c) (hK : K (.p c) S) :
    OkRun G S w id K ((Instr.loadAt t v).run P w) := by
  obtain ⟨b, off, rfl, h⟩ := rep_ref hr
  obtain ⟨_, u, h2, h3⟩ := h o c hc
  exact ok_load1 hS ht h2 (.p h3) hK

theorem ok_loadA_ref (hS : Sim G S w) {t : TypeId} (ht : isAggT P t = some true) {n : Nat} (hn : sizeT P t = some n) {cs : List PV} {o : Nat} {v : Value} (hr : Rep G w (.ref cs o) v) (hc : o + n ≤ cs.length) (hK : K (.agg (((cs.drop o).take n).map .p)) S) :
    OkRun G S w id K ((Instr.loadAt t v).run P w) := by
  obtain ⟨b, off, rfl, h⟩ := rep_ref hr
  have get : ∀ j, j < n → ∃ c, cs[o + j]? = some c := fun j hj => ⟨cs[o + j]'(by omega), by simp [show o + j < cs.length by omega]⟩
  refine ok_loadA hS ht hn (vs := (List.range n).map fun j => (w.cell? ⟨b, off + (o + j), none⟩).getD undef) (cs := ((cs.drop o).take n).map .p) (by simp) (fun j v hv => ?_) ⟨by simp; omega, fun i c v hc' hv => ?_⟩ (fun v hv => ?_) hK
  · simp only [List.getElem?_map, Option.map_eq_some_iff] at hv
    obtain ⟨j', hj', rfl⟩ := hv
    rw [List.getElem?_eq_some_iff] at hj'
    obtain ⟨hlt, rfl⟩ := hj'
    simp only [List.length_range] at hlt
    simp only [List.getElem_range]
    obtain ⟨c, hc'⟩ := get j hlt
    obtain ⟨_, u, h2, _⟩ := h _ c hc'
    rw [Nat.add_assoc, h2]; rfl
  · simp only [List.getElem?_map, Option.map_eq_some_iff, List.getElem?_take, List.getElem?_drop] at hc' hv
    obtain ⟨c', hc', rfl⟩ := hc'
    obtain ⟨j', hj', rfl⟩ := hv
    rw [List.getElem?_eq_some_iff] at hj'
    obtain ⟨hlt, rfl⟩ := hj'
    simp only [List.length_range] at hlt
    rw [if_pos hlt] at hc'
    obtain ⟨_, u, h2, h3⟩ := h _ c' hc'
    simp only [List.getElem_range]
    rw [h2]; exact .p h3
  · simp only [List.mem_map, List.mem_range] at hv
    obtain ⟨j, hj, rfl⟩ := hv
    obtain ⟨c, hc'⟩ := get j hj
    obtain ⟨_, u, h2, h3⟩ := h _ c hc'
    rw [h2]; exact h3.oneCell

/-! ### store -/

theorem ok_store (hS : Sim G S w) {t : TypeId} {n : Nat} (hn : sizeT P t = some n) {k o : Nat} {cs ds : List AV} {x : AV} {v : Value} (hk : S.H k = some (.cells cs)) (hx : x.cells = some ds) (hr : Rep G w x v) (hlen : ds.length = n) (ho : o + n ≤ cs.length) :
    ∃ w', (Instr.storeAt t (.pointer (some ⟨G.ptr k, o, none⟩)) v).run P w = .ok () w' ∧ Ext G S w G (S.put k (.cells (cs.take o ++ ds ++ cs.drop (o + n)))) w' ∧ Sim G (S.put k (.cells (cs.take o ++ ds ++ cs.drop (o + n)))) w' := by
  obtain ⟨vs, e, h1, h2, h3, h4, h5⟩ := blk_cells hS hk
  obtain ⟨hlv, _⟩ := hS.blk k _ hk
  obtain ⟨r1, r2⟩ := rep_cells hx hr
  have hvl : v.cells.size = n := by rw [← Array.length_toList, ← r1.1, hlen]
  have hcl : cs.length = vs.size := by simpa using h2.1
  have hst := run_storeCells_at P (G.ptr k) o e v.cells.toList 0 vs w h1 (by simp [hvl]; omega) r2
  simp only [Nat.add_zero, Array.length_toList, hvl] at hst
  generalize hnew : (vs.toList.take o ++ v.cells.toList ++ vs.toList.drop (o + n)).toArray = new at hst
  refine ⟨w.setRow (G.ptr k) new, by simp [Instr.storeAt, Instr.sureAddr, storeVar, sizeT_run hn, hvl, hst], ?_⟩
  have hnl : new.toList = vs.toList.take o ++ v.cells.toList ++ vs.toList.drop (o + n) := by rw [← hnew]
  have hheap : (w.setRow (G.ptr k) new).heap[G.ptr k]? = some (.cells new e (0, 0)) := setRow_heap w (G.ptr k) vs new e (0, 0) h1
  have hother : ∀ b, b ≠ G.ptr k → (w.setRow (G.ptr k) new).heap[b]? = w.heap[b]? := fun b hb => setRow_other w (G.ptr k) b _ hb
  have hcell : ∀ b o, b ≠ G.ptr k → (w.setRow (G.ptr k) new).cell? ⟨b, o, none⟩ = w.cell? ⟨b, o, none⟩ := fun b o hb => by simp [World.cell?, hother b hb]
  have hfroz : ∀ b o, b ≠ G.ptr k → (w.setRow (G.ptr k) new).frozen? ⟨b, o, none⟩ = w.frozen? ⟨b, o, none⟩ := fun b o hb => by simp [World.frozen?, hother b hb]
  have hne : ∀ b o c, G.cls b o = c → c ≠ .own k → b ≠ G.ptr k := fun b o c hc hne e => by subst e; rw [h4 o] at hc; exact hne hc.symm
  have hle : Le G w G (w.setRow (G.ptr k) new) := ⟨fun _ h => h, fun _ _ => rfl, fun _ _ => ⟨Nat.le_refl _, fun _ => rfl⟩, fun _ _ h => h, fun b o hb => hcell b o (hne b o _ hb (by simp))⟩
  have hsize : (w.setRow (G.ptr k) new).heap.size = w.heap.size := by simp
  refine ⟨⟨hle, rfl, rfl, rfl, by rw [hsize]; exact Nat.le_refl _, fun b hb hno => hother b (fun e => ?_), fun b hb o' k' h6 h7 => ?_⟩, ⟨⟨fun k' b' hb' => ?_, hS.bnd, fun b o' hb => ?_, fun b o' hb => ?_⟩, hS.own⟩⟩
  · subst e; have := hno 0 k (h4 0); rw [hk] at this; cases this
  · refine ⟨k', h6, ?_⟩
    simp only [St.put_H] at h7
    split at h7
    · rename_i e'; subst e'; rw [hk]; simp
    · exact h7
  · simp only [St.put_H] at hb'
    split at hb'
    · rename_i e'; subst e'
      simp only [Option.some.injEq] at hb'; subst hb'
      refine ⟨hlv, new, e, hheap, ?_, ?_, h4⟩
      · rw [hnl]
        refine RepL.append (RepL.append ?_ (r1.mono hle)) ?_
        · exact ⟨by simp [hcl], fun i c v h6 h7 => by
            simp only [List.getElem?_take] at h6 h7
            split at h6
            · rename_i hi; rw [if_pos hi] at h7; exact (h2.2 i c v h6 h7).mono hle
            · cases h6⟩
        · exact ⟨by simp [hcl], fun i c v h6 h7 => by
            simp only [List.getElem?_drop] at h6 h7
            exact (h2.2 _ c v h6 h7).mono hle⟩
      · rw [hnl]; intro u hu
        simp only [List.append_assoc, List.mem_append] at hu
        rcases hu with hu | hu | hu
        · exact h3 u (List.mem_of_mem_take hu)
        · exact r2 u hu
        · exact h3 u (List.mem_of_mem_drop hu)
    · rename_i e'
      obtain ⟨h6, h7⟩ := hS.blk k' b' hb'
      refine ⟨h6, h7.keep hle h6 rfl (fun ha => ⟨hother _ (hne _ 0 _ (ha 0) (by simp; exact e')), ha⟩) (fun b o hb hcl hfr => ?_)⟩
      have hbn := hne b o _ hb (by simp; exact e')
      exact ⟨hb, by rw [hcell b o hbn]; exact hcl, by rw [hfroz b o hbn]; exact hfr⟩
  · rw [hcell b o' (hne b o' _ hb (by simp))]; exact hS.set b o' hb
  · rw [hsize] at hb; exact hS.free b o' hb

/-! ### addresses -/

theorem run_fieldAt {s : TypeId} {fs : Array Field} {f : Nat} {fd : Field} {n : Nat} (hu : P.underlying s = some (.struct fs)) (hf : fs[f]? = some fd) (hs : sizeT P fd.type = some n) (hn : n ≠ 0) (b o : Nat) (w : World) :
    (Instr.fieldAt s (.pointer (some ⟨b, o, none⟩)) f).run P w = .ok (.pointer (some ⟨b, o + fd.offset, none⟩)) w := by
  simp [Instr.fieldAt, run_underlying hu, hf, Instr.sureAddr, fieldPlace, sizeT_run hs, hn, add_none]

theorem run_indexAt_array {t e : TypeId} {n s : Nat} (hu : P.underlying t = some (.array n e)) (hs : sizeT P e = some s) {k : IntKind} {i : Int} (h0 : 0 ≤ i) (h1 : i < n) (b o : Nat) (w : World) :
    (Instr.indexAt t (.pointer (some ⟨b, o, none⟩)) (.int k i)).run P w = .ok (.pointer (some ⟨b, o + i.toNat * s, none⟩)) w := by
  simp [Instr.indexAt, asIntOf, run_underlying hu, Instr.sureAddr, h0, h1, sizeT_run hs, add_none]

theorem run_indexAt_slice {t e : TypeId} {s : Nat} (hu : P.underlying t = some (.slice e)) (hs : sizeT P e = some s) {k : IntKind} {i : Int} {len cap : Nat} (h0 : 0 ≤ i) (h1 : i < len) (b o : Nat) (w : World) :
    (Instr.indexAt t (.slice (some ⟨b, o, none⟩) len cap) (.int k i)).run P w = .ok (.pointer (some ⟨b, o + i.toNat * s, none⟩)) w := by
  simp [Instr.indexAt, asIntOf, run_underlying hu, h0, h1, sizeT_run hs, add_none]

theorem ok_indexS (hS : Sim G S w) {t e : TypeId} {s : Nat} (hu : P.underlying t = some (.slice e)) (hs : sizeT P e = some s) {x : AV} {v : Value} {nil : Bool} {xs : List (List PV)} {tk : Tok} (hx : x.asSl = some (nil, xs, tk)) (hr : Rep G w x v) {k : IntKind} {i : Int} (h0 : 0 ≤ i)
    {el : List PV} (hel : xs[i.toNat]? = some el) (hlen : el.length = s) (hK : K (.ref el 0) S) : OkRun G S w id K ((Instr.indexAt t v (.int k i)).run P w) := by
  obtain ⟨h1, _⟩ := rep_sl hx hr
  have hlt : i.toNat < xs.length := (List.getElem?_eq_some_iff.1 hel).1
  rcases repP_sl h1 with ⟨_, rfl, _⟩ | ⟨_, b, off, cap, wd, f, sp, rfl, hcap, hw, hc, hsp⟩
  · simp at hlt
  · have hsp' := hsp (by omega)
    subst hsp'
    have hwd := hw _ _ hel
    rw [run_indexAt_slice hu hs h0 (by omega) b off w]
    refine okSame hS hK ?_
    have : Rep G w (.ref el 0) (.pointer (some ⟨b, (off + i.toNat * wd) + 0, none⟩)) := rep_ref_mk fun j c hj => by
      obtain ⟨e1, e2, e3⟩ := hc _ _ j c hel hj
      rw [Nat.add_assoc]
      exact ⟨e1, _, e2, e3⟩
    rw [← hlen, hwd]; exact this

/-! ### slicing -/

theorem run_sliceAt_slice' {t e : TypeId} {s : Nat} (hu : P.underlying t = some (.slice e)) (hs : sizeT P e = some s) {a : Option Addr} {len cap l h m : Nat} {lo hi mx : Option Value} {w : World}
    (hb : (Instr.sliceBounds true len cap lo hi mx).run P w = .ok (l, h, m) w) :
    (Instr.sliceAt t (.slice a len cap) lo hi mx).run P w = .ok (.slice (if m = l then a else a.map (·.add (l * s))) (h - l) (m - l)) w := by
  simp [Instr.sliceAt, Instr.slice, run_underlying hu, hb, sizeT_run hs]

theorem run_sliceBound_in {k : IntKind} {i : Int} {y : Nat} {code : BoundsCode} (h0 : 0 ≤ i) (h1 : i ≤ y) (w : World) : (Instr.sliceBound (.int k i) y code).run P w = .ok i.toNat w := run_sliceBound w k i y code h0 h1

theorem bound_lo {lo : Option AV} {vlo : Option Value} (hlo : ∀ x, lo = some x → ∃ v, vlo = some v ∧ Rep G w x v) (hn : lo = none → vlo = none) {l : Int} (h : boundA 0 lo = some l) :
    (lo = none ∧ vlo = none ∧ l = 0) ∨ (∃ k, vlo = some (.int k l)) := by
  cases lo with
  | none => simp [boundA] at h; exact .inl ⟨rfl, hn rfl, h.symm⟩
  | some x =>
    obtain ⟨v, hv, hr⟩ := hlo x rfl
    unfold boundA at h
    split at h
    · rename_i e; cases e
    · rename_i k n e
      simp only [Option.some.injEq] at e h
      subst e; subst h
      exact .inr ⟨k, by rw [hv, rep_int hr]⟩
    · cases h

theorem repP_cut {cls : Nat → Nat → Cls} {nil : Bool} {xs : List (List PV)} {a : Option Addr} {len cap s l h m : Nat} (hr : RepP cls w (.sl nil xs) (.slice a len cap)) (hw : ∀ e ∈ xs, e.length = s ∨ l = 0 ∨ True)
    (hs : ∀ (i : Nat) e, xs[i]? = some e → e.length = s) (h1 : l ≤ h) (h2 : h ≤ len) (h3 : h ≤ m) (h4 : m ≤ cap) :
    RepP cls w (.sl nil ((xs.take h).drop l)) (.slice (if m = l then a else a.map (·.add (l * s))) (h - l) (m - l)) := by
  rcases repP_sl hr with ⟨rfl, rfl, he⟩ | ⟨rfl, b, off, cap', wd, f, sp, he, hcap, hwd, hc, hsp⟩
  · simp only [Value.slice.injEq] at he
    obtain ⟨rfl, rfl, rfl⟩ := he
    have : l = 0 := by omega
    have : h = 0 := by omega
    have : m = 0 := by omega
    subst l; subst h; subst m
    simpa using RepP.nil
  · simp only [Value.slice.injEq] at he
    obtain ⟨rfl, rfl, rfl⟩ := he
    have hlen : ((xs.take h).drop l).length = h - l := by simp; omega
    have get : ∀ (i : Nat) e, ((xs.take h).drop l)[i]? = some e → xs[l + i]? = some e ∧ l + i < h := fun i e hi => by
      simp only [List.getElem?_drop, List.getElem?_take] at hi
      split at hi
      · rename_i hlt; exact ⟨hi, hlt⟩
      · cases hi
    by_cases hml : m = l
    · rw [if_pos hml]
      have hz : h - l = 0 := by omega
      have hxs : (xs.take h).drop l = [] := List.eq_nil_of_length_eq_zero (by omega)
      rw [hxs, hz]
      exact repP_emp _ _
    · rw [if_neg hml]
      by_cases hx0 : xs.length = 0
      · have hz : h - l = 0 := by omega
        have hxs : (xs.take h).drop l = [] := List.eq_nil_of_length_eq_zero (by omega)
        rw [hxs, hz]
        exact repP_emp _ _
      have hsp' := hsp (by omega)
      subst hsp'
      simp only [Option.map_some, add_none]
      rw [← hlen]
      refine repP_mk (wd := s) (by omega) (fun i e hi => hs _ e (get i e hi).1) (fun i e j c hi hj => ?_)
      obtain ⟨g1, g2⟩ := get i e hi
      obtain ⟨e1, e2, e3⟩ := hc _ e j c g1 hj
      have hwds : wd = s := by rw [← hwd _ e g1, hs _ e g1]
      subst hwds
      have : off + l * wd + (i * wd + j) = off + ((l + i) * wd + j) := by rw [Nat.add_mul]; omega
      rw [this]
      exact ⟨e1, _, e2, e3⟩

end
end Go.Cw
