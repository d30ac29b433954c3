/- EACH OPERATION IS SOUND: append. -/
import Derived.Test.YtinenepjloodcaaCwG
set_option linter.unusedVariables false
set_option linter.unusedSimpArgs false
namespace Go.Cw

section
variable {P : Program} {G : Gh} {S : St} {w : World} {id : Nat} {K : AV → St → Prop}

/-- The cells of a slice's elements, one behind the other, and that they are what is read first. -/
theorem repP_first {cls : Nat → Nat → Cls} {nil : Bool} {ys : List (List PV)} {v : Value} {sz : Nat} (h : RepP cls w (.sl nil ys) v) (hsz : ∀ e ∈ ys, e.length = sz) :
    ∃ (us : List Value) (a : Option Addr) (c : Nat), v = .slice a ys.length c ∧ ys.length ≤ c ∧ us.length = ys.length * sz ∧ (∀ u ∈ us, u.oneCell' = true) ∧
      (∀ (P : Program) (w' : World), (∀ b o, cls b o = .settled → w'.cell? ⟨b, o, none⟩ = w.cell? ⟨b, o, none⟩) → (Builtin.firstCells sz ys.length v).run P w' = .ok us.toArray w') ∧
      (∀ (i : Nat) e (j : Nat) c, ys[i]? = some e → e[j]? = some c → ∃ u, us[i * sz + j]? = some u ∧ RepP cls w c u) ∧
      (∀ (q : Nat), q < us.length → ∃ (i : Nat) (e : List PV) (j : Nat) (c : PV), q = i * sz + j ∧ ys[i]? = some e ∧ e[j]? = some c) := by
  rcases repP_sl h with ⟨rfl, rfl, rfl⟩ | ⟨rfl, b, off, cap, wd, f, sp, rfl, hcap, hw, hc, hsp⟩
  · exact ⟨[], none, 0, rfl, Nat.le_refl _, by simp, by simp, fun P w' _ => by simp [Builtin.firstCells], by simp, by simp⟩
  · by_cases hy0 : ys.length = 0
    · have hy0' : ys = [] := List.eq_nil_of_length_eq_zero hy0
      subst hy0'
      exact ⟨[], some ⟨b, off, sp⟩, cap, rfl, by simp, by simp, by simp, fun P w' _ => by simp [Builtin.firstCells, loadCells, loadCellsFrom], by simp, by simp⟩
    have hsp' := hsp (by omega)
    subst hsp'
    have hget : ∀ q, q < ys.length * sz → ∃ (i : Nat) (e : List PV) (j : Nat) (c : PV), q = i * sz + j ∧ ys[i]? = some e ∧ e[j]? = some c := by
      intro q hq
      have hpos : 0 < sz := by
        rcases Nat.eq_zero_or_pos sz with h0 | h0
        · subst h0; simp at hq
        · exact h0
      have hi : q / sz < ys.length := (Nat.div_lt_iff_lt_mul hpos).2 hq
      have hel : ys[q / sz]? = some ys[q / sz] := by simp [hi]
      have hj : q % sz < (ys[q / sz]).length := by rw [hsz _ (List.getElem_mem hi)]; exact Nat.mod_lt _ hpos
      exact ⟨q / sz, ys[q / sz], q % sz, (ys[q / sz])[q % sz], by rw [Nat.mul_comm]; exact (Nat.div_add_mod q sz).symm, hel, by simp [hj]⟩
    have hwd : ∀ (i : Nat) e, ys[i]? = some e → wd = sz := fun i e he => by rw [← hw i e he, hsz e (List.mem_of_getElem? he)]
    refine ⟨(List.range (ys.length * sz)).map f, some ⟨b, off, none⟩, cap, rfl, hcap, by simp, ?_, ?_, ?_, ?_⟩
    · intro u hu
      simp only [List.mem_map, List.mem_range] at hu
      obtain ⟨q, hq, rfl⟩ := hu
      obtain ⟨i, e, j, c, rfl, h1, h2⟩ := hget q hq
      have hz := hwd i e h1
      subst hz
      exact (hc i e j c h1 h2).2.2.oneCell
    · intro P w' hw'
      simp only [Builtin.firstCells]
      refine run_loadCells w' ⟨b, off, none⟩ (ys.length * sz) f (fun q hq => ?_)
      obtain ⟨i, e, j, c, rfl, h1, h2⟩ := hget q hq
      have hz := hwd i e h1
      subst hz
      rw [add_none, hw' _ _ (hc i e j c h1 h2).1]
      exact (hc i e j c h1 h2).2.1
    · intro i e j c h1 h2
      have hz := hwd i e h1
      subst hz
      refine ⟨f (i * wd + j), ?_, (hc i e j c h1 h2).2.2⟩
      have hlt : i * wd + j < ys.length * wd := by
        have hi : i < ys.length := (List.getElem?_eq_some_iff.1 h1).1
        have hj : j < e.length := (List.getElem?_eq_some_iff.1 h2).1
        rw [hw i e h1] at hj
        have : i * wd + wd ≤ ys.length * wd := by rw [← Nat.succ_mul]; exact Nat.mul_le_mul_right _ hi
        omega
      simp [List.getElem?_map, hlt]
    · intro q hq
      simp at hq
      exact hget q hq

theorem run_append_fit {t t' ty e e' : TypeId} {i : TypeInfo} (hu : P.underlying t = some (.slice e)) (hu' : P.underlying t' = some (.slice e')) (hi : P.info? e = some i) {base b : Option Addr} {sLen sCap n c : Nat} {us : List Value} {w w' : World}
    (hf : (Builtin.firstCells i.size n (.slice b n c)).run P w = .ok us.toArray w) (hfit : sLen + n ≤ sCap) (hst : ∀ a, base = some a → (storeCells (a.add (sLen * i.size)) us).run P w = .ok () w') (hnone : base = none → w' = w) :
    (Builtin.append_ #[t, t'] ty #[.slice base sLen sCap, .slice b n c]).run P w = .ok (.slice base (sLen + n) sCap) w' := by
  cases base with
  | none =>
    rw [hnone rfl]
    simp [Builtin.append_, run_underlying hu, run_underlying hu', sizeOf, typeInfo, hi, Builtin.lenOf, hfit, hf]
  | some a => simp [Builtin.append_, run_underlying hu, run_underlying hu', sizeOf, typeInfo, hi, Builtin.lenOf, hfit, hf, hst a rfl]

theorem run_append_more {t t' ty e e' : TypeId} {i : TypeInfo} {z : Value} (hu : P.underlying t = some (.slice e)) (hu' : P.underlying t' = some (.slice e')) (hi : P.info? e = some i) (hz : i.zero = some z) {base b : Option Addr} {sLen sCap n c : Nat} {os us : List Value} {w : World}
    (hfo : (Builtin.firstCells i.size sLen (.slice base sLen sCap)).run P w.drew = .ok os.toArray w.drew) (hf : (Builtin.firstCells i.size n (.slice b n c)).run P w.drew = .ok us.toArray w.drew) (hg : sCap < sLen + n)
    (h63 : sLen + n ≤ 9223372036854775807) (hb : (sLen + n) * i.bytes ≤ 140737488355328) :
    (Builtin.append_ #[t, t'] ty #[.slice base sLen sCap, .slice b n c]).run P w =
      .ok (.slice (some ⟨w.heap.size, 0, none⟩) (sLen + n) (grownCap w (sLen + n) sCap e))
        (w.drew.alloc (.cells (os.toArray ++ us.toArray ++ Builtin.zeroCells z.cells (grownCap w (sLen + n) sCap e - (sLen + n))) e)) := by
  have hn : ¬ (sLen + n ≤ sCap) := by omega
  have h63' : ¬ (9223372036854775807 < ((sLen : Int) + (n : Int))) := by omega
  have h48 := growslice_fits (bytes := i.bytes) hg hb
  have h48' : ¬ (281474976710656 < Builtin.nextslicecap (sLen + n) sCap * i.bytes) := by omega
  simp [Builtin.append_, run_underlying hu, run_underlying hu', sizeOf, typeInfo, zeroValue, hi, hz, Builtin.lenOf, hn, h63', h48', Question.forced, hf, hfo, newRow, grownCap]
  congr 2
  apply Array.ext'
  simp [List.append_assoc]

theorem app_get {xs ys : List (List PV)} {i : Nat} {e : List PV} (h : (xs ++ ys)[i]? = some e) : (xs[i]? = some e ∧ i < xs.length) ∨ (xs.length ≤ i ∧ ys[i - xs.length]? = some e) := by
  rw [List.getElem?_append] at h
  split at h
  · rename_i hi; exact .inl ⟨h, hi⟩
  · rename_i hi; exact .inr ⟨by omega, h⟩

/-- The row that an append lays anew. -/
theorem grown_row {cls : Nat → Nat → Cls} {xs ys : List (List PV)} {sz cap : Nat} {os us : List Value} {rest : Array Value}
    (hx : ∀ e ∈ xs, e.length = sz) (hy : ∀ e ∈ ys, e.length = sz) (hol : os.length = xs.length * sz)
    (ho : ∀ (i : Nat) e (j : Nat) c, xs[i]? = some e → e[j]? = some c → ∃ u, os[i * sz + j]? = some u ∧ RepP cls w c u)
    (hu : ∀ (i : Nat) e (j : Nat) c, ys[i]? = some e → e[j]? = some c → ∃ u, us[i * sz + j]? = some u ∧ RepP cls w c u)
    {cls' : Nat → Nat → Cls} {w' : World} {b : Nat} (hle1 : ∀ b o, cls b o = .settled → cls' b o = .settled) (hle2 : ∀ b o, cls b o = .settled → w'.cell? ⟨b, o, none⟩ = w.cell? ⟨b, o, none⟩)
    (hcell : ∀ j, w'.cell? ⟨b, j, none⟩ = (os.toArray ++ us.toArray ++ rest)[j]?) (hset : ∀ j, j < (xs.length + ys.length) * sz → cls' b j = .settled) (hcap : xs.length + ys.length ≤ cap) :
    RepP cls' w' (.sl false (xs ++ ys)) (.slice (some ⟨b, 0, none⟩) (xs.length + ys.length) cap) := by
  have := repP_mk (cls := cls') (w := w') (b := b) (off := 0) (cap := cap) (wd := sz) (xs := xs ++ ys) (by simpa using hcap)
    (fun i e hi => by
      have hm := List.mem_of_getElem? hi
      rw [List.mem_append] at hm
      rcases hm with hm | hm
      · exact hx e hm
      · exact hy e hm)
    (fun i e j c hi hj => by
      have hjl : j < e.length := (List.getElem?_eq_some_iff.1 hj).1
      have hlen : e.length = sz := by
        have hm := List.mem_of_getElem? hi
        rw [List.mem_append] at hm
        rcases hm with hm | hm
        · exact hx e hm
        · exact hy e hm
      have hil : i < xs.length + ys.length := by have := (List.getElem?_eq_some_iff.1 hi).1; simpa using this
      have hbd : i * sz + j < (xs.length + ys.length) * sz := by
        have : i * sz + sz ≤ (xs.length + ys.length) * sz := by rw [← Nat.succ_mul]; exact Nat.mul_le_mul_right _ hil
        omega
      rw [Nat.zero_add]
      refine ⟨hset _ hbd, ?_⟩
      rw [hcell]
      rcases app_get hi with ⟨h1, h2⟩ | ⟨h1, h2⟩
      · obtain ⟨u, hu1, hu2⟩ := ho i e j c h1 hj
        have hlt : i * sz + j < os.length := (List.getElem?_eq_some_iff.1 hu1).1
        refine ⟨u, ?_, hu2.mono hle1 hle2⟩
        rw [Array.append_assoc, Array.getElem?_append_left (by simpa using hlt)]
        simpa using hu1
      · obtain ⟨u, hu1, hu2⟩ := hu _ e j c h2 hj
        have hlt : (i - xs.length) * sz + j < us.length := (List.getElem?_eq_some_iff.1 hu1).1
        have hidx : i * sz + j = os.length + ((i - xs.length) * sz + j) := by
          rw [hol, ← Nat.add_assoc, ← Nat.add_mul]
          congr 2; omega
        refine ⟨u, ?_, hu2.mono hle1 hle2⟩
        rw [Array.append_assoc, Array.getElem?_append_right (by simp; omega), hidx]
        simp only [List.size_toArray, Nat.add_sub_cancel_left]
        rw [Array.getElem?_append_left (by simpa using hlt)]
        simpa using hu1)
  simpa using this

theorem grownCap_ge' (w : World) (need old : Nat) (e : TypeId) : need ≤ grownCap w need old e := grownCap_ge w need old e

/-- An append that lays a new row: under a new name, or again under one that is there. -/
theorem ok_append_more (hS : Sim G S w) {t t' ty e e' : TypeId} {i : TypeInfo} {z : Value} (hu : P.underlying t = some (.slice e)) (hu' : P.underlying t' = some (.slice e')) (hi : P.info? e = some i) (hz : i.zero = some z) (hzs : z.cells.size = i.size)
    {n1 n2 : Bool} {xs ys : List (List PV)} {vx vy : Value} {base : Option Addr} {sCap : Nat} (rx : RepP G.cls w (.sl n1 xs) vx) (ry : RepP G.cls w (.sl n2 ys) vy) (hvx : vx = .slice base xs.length sCap)
    (hx : ∀ e ∈ xs, e.length = i.size) (hy : ∀ e ∈ ys, e.length = i.size) (hg : sCap < xs.length + ys.length) (h63 : xs.length + ys.length ≤ 9223372036854775807) (hb : (xs.length + ys.length) * i.bytes ≤ 140737488355328)
    {k : Nat} (hk : (G.live k = false ∧ k = id ∧ id < S.n) ∨ (G.live k = true ∧ S.H k ≠ none ∧ (G.vec k).m = xs.length ∧ 0 < ys.length)) (hK : K (.sl false (xs ++ ys) (.vec k)) (S.put k (.fr (xs.length + ys.length) i.size))) :
    OkRun G S w id K ((Builtin.append_ #[t, t'] ty #[vx, vy]).run P w) := by
  obtain ⟨os, ao, co, ho1, ho2, hol, ho3, ho4, ho5, _⟩ := repP_first rx hx
  obtain ⟨us, au, cu, hu1, hu2, hul, hu3, hu4, hu5, _⟩ := repP_first ry hy
  rw [hu1, hvx]
  rw [hvx] at ho4
  rw [hu1] at hu4
  rw [run_append_more hu hu' hi hz (ho4 P w.drew (fun _ _ _ => rfl)) (hu4 P w.drew (fun _ _ _ => rfl)) hg h63 hb]
  have hge := grownCap_ge' w (xs.length + ys.length) sCap e
  generalize grownCap w (xs.length + ys.length) sCap e = cap at hge ⊢
  generalize hrest : Builtin.zeroCells z.cells (cap - (xs.length + ys.length)) = rest
  have hrs : rest.size = (cap - (xs.length + ys.length)) * i.size := by rw [← hrest, size_zeroCells, hzs]
  have hcell : ∀ j, (w.drew.alloc (.cells (os.toArray ++ us.toArray ++ rest) e)).cell? ⟨w.heap.size, j, none⟩ = (os.toArray ++ us.toArray ++ rest)[j]? := fun j => by
    have := World.cell?_alloc_new w.drew (os.toArray ++ us.toArray ++ rest) e j
    simpa using this
  have hfro : ∀ j, (w.drew.alloc (.cells (os.toArray ++ us.toArray ++ rest) e)).frozen? ⟨w.heap.size, j, none⟩ = false := fun j => by
    have := World.frozen?_alloc_new w.drew (os.toArray ++ us.toArray ++ rest) e j
    simpa using this
  have htot : (os.toArray ++ us.toArray ++ rest).size = cap * i.size := by
    simp only [Array.size_append, List.size_toArray, hol, hul, hrs, ← Nat.add_mul]
    congr 1; omega
  have hS' := hS.drew
  let c : Nat → Cls := fun o => if o < (xs.length + ys.length) * i.size then .settled else .own k
  have hcset : ∀ off, c off = .settled → ((w.drew.alloc (.cells (os.toArray ++ us.toArray ++ rest) e)).cell? ⟨w.drew.heap.size, off, none⟩).isSome = true := fun off h => by
    simp only [c] at h
    split at h
    · rename_i hlt
      have : (xs.length + ys.length) * i.size ≤ cap * i.size := Nat.mul_le_mul_right _ hge
      have h2 : off < (os.toArray ++ us.toArray ++ rest).size := by rw [htot]; omega
      rw [show w.drew.heap.size = w.heap.size from rfl, hcell]
      rw [Array.getElem?_eq_getElem h2]; rfl
    · cases h
  have hco : ∀ off k', c off = .own k' → k' = k := fun off k' h => by
    simp only [c] at h
    split at h
    · cases h
    · simp only [Cls.own.injEq] at h; exact h.symm
  have hblk : ∀ b, BlkOk ((G.ext w.drew.heap.size c).reg k b ⟨some ⟨w.heap.size, 0, none⟩, cap, i.size, xs.length + ys.length⟩) (w.drew.alloc (.cells (os.toArray ++ us.toArray ++ rest) e)) k (.fr (xs.length + ys.length) i.size) := by
    intro b
    refine ⟨by simp [Gh.reg], by simp [Gh.reg], by simpa [Gh.reg] using hge, by simp [Gh.reg], fun a ha => ?_⟩
    simp only [Gh.reg, if_true, Option.some.injEq] at ha ⊢
    subst ha
    refine ⟨.inr rfl, fun j h1 h2 => ?_⟩
    simp only [Nat.zero_add]
    refine ⟨?_, ?_, hfro j⟩
    · simp only [Gh.ext, if_pos (show w.heap.size = w.drew.heap.size from rfl), c]
      rw [if_neg (by omega)]
    · have h3 : j < (os.toArray ++ us.toArray ++ rest).size := by rw [htot]; omega
      rw [hcell, Array.getElem?_eq_getElem h3]; rfl
  have hext : Le G w (G.ext w.drew.heap.size c) (w.drew.alloc (.cells (os.toArray ++ us.toArray ++ rest) e)) := (Ext.drew G S w).toLe.trans (Le.ext hS'.toSimC c _)
  have hrep : RepP (G.ext w.drew.heap.size c).cls (w.drew.alloc (.cells (os.toArray ++ us.toArray ++ rest) e)) (.sl false (xs ++ ys)) (.slice (some ⟨w.heap.size, 0, none⟩) (xs.length + ys.length) cap) :=
    grown_row hx hy hol ho5 hu5 hext.settled hext.pres hcell (fun j hj => by simp only [Gh.ext, if_pos (show w.heap.size = w.drew.heap.size from rfl), c]; rw [if_pos hj]) hge
  have htok : ∀ b, TokOk ((G.ext w.drew.heap.size c).reg k b ⟨some ⟨w.heap.size, 0, none⟩, cap, i.size, xs.length + ys.length⟩) (.vec k) (xs ++ ys).length (.slice (some ⟨w.heap.size, 0, none⟩) (xs.length + ys.length) cap) := by
    intro b
    refine ⟨by simp [Gh.reg], by simp [Gh.reg], fun _ => by simp [Gh.reg]⟩
  rcases hk with ⟨hl, rfl, hn⟩ | ⟨hl, hH, hm, hy0⟩
  · obtain ⟨h1, h2, h3⟩ := newNamed hS' hl hn c (.cells (os.toArray ++ us.toArray ++ rest) e) hcset hco 0 ⟨some ⟨w.heap.size, 0, none⟩, cap, i.size, xs.length + ys.length⟩ (.fr (xs.length + ys.length) i.size) (hblk 0)
    exact ⟨_, _, _, _, _, rfl, hK, (Ext.drew G S w).trans h1, h2, .sl hrep (htok 0), h3⟩
  · obtain ⟨h1, h2, h3⟩ := newAgain hS' hl hH c (.cells (os.toArray ++ us.toArray ++ rest) e) hcset hco ⟨some ⟨w.heap.size, 0, none⟩, cap, i.size, xs.length + ys.length⟩ (by rw [hm]; simp; omega) (.fr (xs.length + ys.length) i.size) (hblk _)
    exact ⟨_, _, _, _, _, rfl, hK, (Ext.drew G S w).trans h1, h2, .sl hrep (htok _), fun k h => .inl (h3 k h)⟩

/-! ### Within the capacity -/

theorem setCells_heap (b : Nat) : ∀ (vs : List Value) (o : Nat) (w : World) (b' : Nat), b' ≠ b → (w.setCells b o vs).heap[b']? = w.heap[b']?
  | [], _, _, _, _ => rfl
  | v :: vs, o, w, b', h => by
    simp only [World.setCells]
    rw [setCells_heap b vs (o + 1) _ b' h]
    exact RowKit.Below.heap_setCell w ⟨b, o, none⟩ v b' h

theorem setCells_size (b : Nat) : ∀ (vs : List Value) (o : Nat) (w : World), (w.setCells b o vs).heap.size = w.heap.size
  | [], _, _ => rfl
  | v :: vs, o, w => by simp only [World.setCells]; rw [setCells_size b vs]; simp

theorem setCells_frozen (b : Nat) : ∀ (vs : List Value) (o : Nat) (w : World) (a : Addr), (w.setCells b o vs).frozen? a = w.frozen? a
  | [], _, _, _ => rfl
  | v :: vs, o, w, a => by simp only [World.setCells]; rw [setCells_frozen b vs]; simp

theorem setCells_other (b : Nat) : ∀ (vs : List Value) (o : Nat) (w : World) (b' o' : Nat), (b' ≠ b ∨ o' < o ∨ o + vs.length ≤ o') → (w.setCells b o vs).cell? ⟨b', o', none⟩ = w.cell? ⟨b', o', none⟩
  | [], _, _, _, _, _ => rfl
  | v :: vs, o, w, b', o', h => by
    simp only [World.setCells]
    rw [setCells_other b vs (o + 1) _ b' o' (by simp at h; omega)]
    exact World.cell?_setCell_other _ _ _ _ (by simp at h ⊢; omega)

theorem setCells_at (b : Nat) : ∀ (vs : List Value) (o : Nat) (w : World) (j : Nat) v, vs[j]? = some v → (∀ j, j < vs.length → (w.cell? ⟨b, o + j, none⟩).isSome = true) → (w.setCells b o vs).cell? ⟨b, o + j, none⟩ = some v
  | [], _, _, _, _, h, _ => by simp at h
  | u :: vs, o, w, j, v, h, hc => by
    simp only [World.setCells]
    cases j with
    | zero =>
      simp at h; subst h
      rw [setCells_other b vs (o + 1) _ b (o + 0) (by omega)]
      obtain ⟨x, hx⟩ := Option.isSome_iff_exists.1 (hc 0 (by simp))
      exact World.cell?_setCell_same _ _ _ hx
    | succ j =>
      simp at h
      have := setCells_at b vs (o + 1) (w.setCell ⟨b, o, none⟩ u) j v h (fun j hj => by
        rw [World.cell?_setCell_other _ _ _ _ (by simp <;> omega)]
        have := hc (j + 1) (by simp; omega)
        rwa [show o + (j + 1) = o + 1 + j by omega] at this)
      rwa [show o + 1 + j = o + (j + 1) by omega] at this

theorem setCells_same (b : Nat) : ∀ (vs : List Value) (o : Nat) (w : World), (w.setCells b o vs).os = w.os ∧ (w.setCells b o vs).tape = w.tape ∧ (w.setCells b o vs).output = w.output
  | [], _, _ => ⟨rfl, rfl, rfl⟩
  | v :: vs, o, w => by simp only [World.setCells]; exact setCells_same b vs (o + 1) _

/-- An append of nothing to a slice that is full: a new name for it. -/
theorem ok_append_nothing (hS : Sim G S w) (hid : G.live id = false) (hn : id < S.n) {t t' ty e e' : TypeId} {i : TypeInfo} (hu : P.underlying t = some (.slice e)) (hu' : P.underlying t' = some (.slice e')) (hi : P.info? e = some i)
    {n1 n2 : Bool} {xs : List (List PV)} {vx vy : Value} (rx : RepP G.cls w (.sl n1 xs) vx) (ry : RepP G.cls w (.sl n2 []) vy) (ht : ∃ a, vx = .slice a xs.length xs.length)
    (hK : K (.sl n1 xs (.vec id)) (S.put id (.fr xs.length i.size))) : OkRun G S w id K ((Builtin.append_ #[t, t'] ty #[vx, vy]).run P w) := by
  obtain ⟨a, rfl⟩ := ht
  obtain ⟨us, au, cu, hu1, hu2, hul, hu3, hu4, hu5, _⟩ := repP_first (sz := i.size) ry (by simp)
  have hus : us = [] := List.eq_nil_of_length_eq_zero (by simpa using hul)
  subst hus
  rw [hu1]
  rw [hu1] at hu4
  simp only [List.length_nil] at hu4 ⊢
  rw [run_append_fit (w' := w) hu hu' hi (hu4 P w (fun _ _ _ => rfl)) (by omega) (fun a _ => by simp [storeCells]) (fun _ => rfl)]
  have hbase : ∀ b, a = some b → xs.length = 0 ∨ b.spot = none := by
    intro b hb
    rcases repP_sl rx with ⟨_, _, h⟩ | ⟨_, b', off, cap, wd, f, sp, h, _, _, _, hsp⟩
    · simp only [Value.slice.injEq] at h; rw [h.1] at hb; cases hb
    · simp only [Value.slice.injEq] at h; rw [h.1] at hb; cases hb
      rcases Nat.eq_zero_or_pos xs.length with h0 | h0
      · exact .inl h0
      · exact .inr (hsp h0)
  have hnone : a = none → xs.length = 0 := by
    intro hb
    rcases repP_sl rx with ⟨_, h, _⟩ | ⟨_, b', off, cap, wd, f, sp, h, _⟩
    · rw [h]; rfl
    · simp only [Value.slice.injEq] at h; rw [h.1] at hb; cases hb
  have hle := Le.reg (G := G) (w := w) hid 0 ⟨a, xs.length, i.size, xs.length⟩
  have hb : BlkOk (G.reg id 0 ⟨a, xs.length, i.size, xs.length⟩) w id (.fr xs.length i.size) := by
    refine ⟨by simp [Gh.reg], by simp [Gh.reg], by simp [Gh.reg], by simpa [Gh.reg] using hnone, fun b hb => ?_⟩
    simp only [Gh.reg, if_true] at hb ⊢
    exact ⟨hbase b hb, fun j h1 h2 => by omega⟩
  refine ⟨_, _, _, _, G.reg id 0 ⟨a, xs.length, i.size, xs.length⟩, rfl, hK, ?_, ⟨hS.toSimC.reg 0 _ hle hn _ hb, fun b o k h => ?_⟩, .sl (rx.mono hle.settled hle.pres) ?_, fun k hk => ?_⟩
  · exact (Ext.refl G S w).reg 0 _ hle _ (fun b' _ o h => absurd h (no_own hS hid _ _))
  · exact hle.live k (hS.own b o k h)
  · exact ⟨by simp [Gh.reg], by simp [Gh.reg], fun _ => by simp [Gh.reg]⟩
  · simp only [Gh.reg] at hk
    split at hk
    · rename_i e; exact .inr e
    · exact .inl hk

theorem ok_append_fit (hS : Sim G S w) {t t' ty e e' : TypeId} {i : TypeInfo} (hu : P.underlying t = some (.slice e)) (hu' : P.underlying t' = some (.slice e')) (hi : P.info? e = some i)
    {n1 n2 : Bool} {xs ys : List (List PV)} {vx vy : Value} (rx : RepP G.cls w (.sl n1 xs) vx) (ry : RepP G.cls w (.sl n2 ys) vy)
    (hx : ∀ e ∈ xs, e.length = i.size) (hy : ∀ e ∈ ys, e.length = i.size)
    {k : Nat} (hk : G.live k = true) (hH : S.H k = some (.fr xs.length i.size)) (hv : vx = .slice (G.vec k).base xs.length (G.vec k).cap) (hfit : xs.length + ys.length ≤ (G.vec k).cap)
    (hK : K (.sl (n1 && ys.isEmpty) (xs ++ ys) (.vec k)) (S.put k (.fr (xs.length + ys.length) i.size))) : OkRun G S w id K ((Builtin.append_ #[t, t'] ty #[vx, vy]).run P w) := by
  obtain ⟨us, au, cu, hu1, hu2, hul, hu3, hu4, hu5, hu6⟩ := repP_first ry hy
  obtain ⟨_, hm, hwd, hmc, hnb, hsp⟩ := hS.blk k _ hH
  rcases repP_sl rx with ⟨rfl, rfl, h0⟩ | ⟨rfl, b, off, cap, wd, f, sp, h0, hcap, hw, hc, hsp0⟩
  · rw [h0] at hv
    simp only [Value.slice.injEq] at hv
    obtain ⟨hv1, _, hv3⟩ := hv
    have hys : ys = [] := List.eq_nil_of_length_eq_zero (by rw [← hv3] at hfit; simpa using hfit)
    subst hys
    have hus : us = [] := List.eq_nil_of_length_eq_zero (by simpa using hul)
    subst hus
    rw [hu1] at hu4
    rw [hu1, h0, run_append_fit (w' := w) hu hu' hi (hu4 P w (fun _ _ _ => rfl)) (by simp) (fun a h => by cases h) (fun _ => rfl)]
    simp only [List.append_nil, List.isEmpty_nil, Bool.and_self, List.length_nil, Nat.add_zero] at hK ⊢
    have hput : S.put k (.fr 0 i.size) = S := by
      have hH' : S.H k = some (.fr 0 i.size) := by simpa using hH
      cases S with
      | mk n H =>
        simp only [St.put, St.mk.injEq, true_and]
        funext j
        split
        · rename_i e; subst e; exact hH'.symm
        · rfl
    rw [hput] at hK
    refine okSame hS hK (.sl .nil ⟨hk, by rw [hm]; simp, fun _ => ?_⟩)
    rw [← hv1, ← hv3]; rfl
  · rw [h0] at hv
    simp only [Value.slice.injEq] at hv
    obtain ⟨hv1, _, hv3⟩ := hv
    obtain ⟨hcs, hspare⟩ := hsp _ hv1.symm
    by_cases hc0 : cap = 0
    · have hxs : xs = [] := List.eq_nil_of_length_eq_zero (by omega)
      have hys : ys = [] := List.eq_nil_of_length_eq_zero (by rw [← hv3] at hfit; omega)
      subst hxs
      subst hys
      have hus : us = [] := List.eq_nil_of_length_eq_zero (by simpa using hul)
      subst hus
      rw [hu1] at hu4
      rw [hu1, h0, run_append_fit (w' := w) hu hu' hi (hu4 P w (fun _ _ _ => rfl)) (by simp) (fun a _ => by simp [storeCells]) (fun h => by cases h)]
      simp only [List.append_nil, List.isEmpty_nil, Bool.false_and, List.length_nil, Nat.add_zero] at hK ⊢
      have hput : S.put k (.fr 0 i.size) = S := by
        have hH' : S.H k = some (.fr 0 i.size) := by simpa using hH
        cases S with
        | mk n H =>
          simp only [St.put, St.mk.injEq, true_and]
          funext j
          split
          · rename_i e; subst e; exact hH'.symm
          · rfl
      rw [hput] at hK
      refine okSame hS hK (.sl (repP_emp _ _) ⟨hk, by rw [hm]; simp, fun _ => ?_⟩)
      rw [← hv1, ← hv3]; rfl
    have hspn : sp = none := by
      rcases hcs with h | h
      · rw [← hv3] at h; exact absurd h hc0
      · exact h
    subst hspn
    rw [← hv3] at hfit hspare
    simp only at hspare
    have hwx : ∀ (i' : Nat) e, xs[i']? = some e → wd = i.size := fun i' e he => by rw [← hw i' e he, hx e (List.mem_of_getElem? he)]
    have hin : ∀ j, j < us.length → G.cls b (off + (xs.length * i.size + j)) = .own k ∧ (w.cell? ⟨b, off + (xs.length * i.size + j), none⟩).isSome = true ∧ w.frozen? ⟨b, off + (xs.length * i.size + j), none⟩ = false := fun j hj => by
      refine hspare _ (by omega) ?_
      rw [hul] at hj
      have : (xs.length + ys.length) * i.size ≤ cap * i.size := Nat.mul_le_mul_right _ hfit
      rw [Nat.add_mul] at this
      omega
    have hst := run_storeCells_cells (P := P) b (off + xs.length * i.size) us 0 w (fun j hj => by have := (hin j hj).2.1; simpa [Nat.add_assoc] using this) (fun j hj => by have := (hin j hj).2.2; simpa [Nat.add_assoc] using this) hu3
    rw [hu1] at hu4
    rw [hu1, h0, run_append_fit (w' := w.setCells b (off + xs.length * i.size) us) hu hu' hi (hu4 P w (fun _ _ _ => rfl)) hfit (fun a h => by cases h; rw [add_none]; simpa using hst) (fun h => by cases h)]
    generalize hww : w.setCells b (off + xs.length * i.size) us = w'
    have hcellO : ∀ b' o', (b' ≠ b ∨ o' < off + xs.length * i.size ∨ off + xs.length * i.size + us.length ≤ o') → w'.cell? ⟨b', o', none⟩ = w.cell? ⟨b', o', none⟩ := fun b' o' h => by rw [← hww]; exact setCells_other b us _ w b' o' h
    have hcellN : ∀ (j : Nat) v, us[j]? = some v → w'.cell? ⟨b, off + xs.length * i.size + j, none⟩ = some v := fun j v h => by
      rw [← hww]
      exact setCells_at b us _ w j v h (fun j hj => by have := (hin j hj).2.1; simpa [Nat.add_assoc] using this)
    have hfro : ∀ a, w'.frozen? a = w.frozen? a := fun a => by rw [← hww]; exact setCells_frozen b us _ w a
    have hheap : ∀ b', b' ≠ b → w'.heap[b']? = w.heap[b']? := fun b' h => by rw [← hww]; exact setCells_heap b us _ w b' h
    have hsize : w'.heap.size = w.heap.size := by rw [← hww]; exact setCells_size b us _ w
    obtain ⟨hs1, hs2, hs3⟩ : w'.os = w.os ∧ w'.tape = w.tape ∧ w'.output = w.output := by rw [← hww]; exact setCells_same b us _ w
    -- the marks
    let inR : Nat → Nat → Prop := fun b' o' => b' = b ∧ off + xs.length * i.size ≤ o' ∧ o' < off + xs.length * i.size + us.length
    have hinR : ∀ b' o', inR b' o' → G.cls b' o' = .own k := fun b' o' ⟨h1, h2, h3⟩ => by
      subst h1
      have := (hin (o' - (off + xs.length * i.size)) (by omega)).1
      rwa [show off + (xs.length * i.size + (o' - (off + xs.length * i.size))) = o' by omega] at this
    let G' : Gh := { live := G.live, ptr := G.ptr, cls := fun b' o' => if b' = b ∧ off + xs.length * i.size ≤ o' ∧ o' < off + xs.length * i.size + us.length then .settled else G.cls b' o',
                     vec := fun j => if j = k then ⟨some ⟨b, off, none⟩, cap, i.size, xs.length + ys.length⟩ else G.vec j }
    have hG'set : ∀ b' o', G.cls b' o' = .settled → G'.cls b' o' = .settled := fun b' o' h => by simp only [G']; split <;> first | rfl | exact h
    have hG'nr : ∀ b' o', ¬ inR b' o' → G'.cls b' o' = G.cls b' o' := fun b' o' h => by simp only [G']; rw [if_neg h]
    have hnot : ∀ b' o' c, G.cls b' o' = c → c ≠ .own k → ¬ inR b' o' := fun b' o' c h1 h2 h3 => h2 (by rw [← h1]; exact hinR b' o' h3)
    have hoth : ∀ b' o', ¬ inR b' o' → w'.cell? ⟨b', o', none⟩ = w.cell? ⟨b', o', none⟩ := fun b' o' h => hcellO b' o' (by
      by_cases e1 : b' = b
      · by_cases e2 : o' < off + xs.length * i.size
        · exact .inr (.inl e2)
        · by_cases e3 : off + xs.length * i.size + us.length ≤ o'
          · exact .inr (.inr e3)
          · exact absurd ⟨e1, by omega, by omega⟩ h
      · exact .inl e1)
    have hle : Le G w G' w' := by
      refine ⟨fun _ h => h, fun _ _ => rfl, fun j hj => ?_, hG'set, fun b' o' h => hoth b' o' (hnot b' o' _ h (by simp))⟩
      simp only [G']
      split
      · rename_i e; subst e
        refine ⟨by rw [hm]; simp, fun e => ?_⟩
        have h3 : ys.length = 0 := by rw [hm] at e; simp only at e; omega
        cases hvk : G.vec j with
        | mk vb vc vw vm =>
          rw [hvk] at hv1 hv3 hwd hm
          simp only at hv1 hv3 hwd hm ⊢
          simp only [VI.mk.injEq]
          exact ⟨hv1, hv3, hwd.symm, by omega⟩
      · exact ⟨Nat.le_refl _, fun _ => rfl⟩
    have hrep : RepP G'.cls w' (.sl false (xs ++ ys)) (.slice (some ⟨b, off, none⟩) (xs.length + ys.length) cap) := by
      have := repP_mk (cls := G'.cls) (w := w') (b := b) (off := off) (cap := cap) (wd := i.size) (xs := xs ++ ys) (by simpa using hfit)
        (fun q e hi' => by
          have hmm := List.mem_of_getElem? hi'
          rw [List.mem_append] at hmm
          rcases hmm with hmm | hmm
          · exact hx e hmm
          · exact hy e hmm)
        (fun q e j c hi' hj => by
          rcases app_get hi' with ⟨h1, h2⟩ | ⟨h1, h2⟩
          · obtain ⟨c1, c2, c3⟩ := hc q e j c h1 hj
            have hz := hwx q e h1
            subst hz
            exact ⟨hG'set _ _ c1, _, (hle.pres _ _ c1).trans c2, c3.mono hle.settled hle.pres⟩
          · obtain ⟨u, hq1, hq2⟩ := hu5 _ e j c h2 hj
            have hlt : (q - xs.length) * i.size + j < us.length := (List.getElem?_eq_some_iff.1 hq1).1
            have hidx : off + (q * i.size + j) = off + xs.length * i.size + ((q - xs.length) * i.size + j) := by
              have : q * i.size = xs.length * i.size + (q - xs.length) * i.size := by rw [← Nat.add_mul]; congr 1; omega
              omega
            rw [hidx]
            refine ⟨?_, u, hcellN _ u hq1, hq2.mono hle.settled hle.pres⟩
            show (if b = b ∧ off + xs.length * i.size ≤ _ ∧ _ < off + xs.length * i.size + us.length then Cls.settled else _) = _
            rw [if_pos ⟨rfl, by omega, by omega⟩])
      simpa using this
    simp only [Bool.false_and] at hK
    refine ⟨_, _, _, _, G', rfl, hK, ⟨hle, hs1, hs2, hs3, by rw [hsize]; exact Nat.le_refl _, fun b' hb' hno => ?_, fun b' hb' o' k' h1 h2 => ?_⟩, ⟨⟨fun k' bk hbk => ?_, hS.bnd, fun b' o' h => ?_, fun b' o' h => ?_⟩, fun b' o' k' h => ?_⟩, .sl hrep ?_, fun _ h => .inl h⟩
    · by_cases e : b' = b
      · subst e
        cases hus : us with
        | nil =>
          rw [← hww, hus]; rfl
        | cons u0 us0 =>
          have := hno _ k (hin 0 (by rw [hus]; simp)).1
          rw [hH] at this; cases this
      · exact hheap b' e
    · by_cases hr : inR b' o'
      · exact ⟨k, hinR b' o' hr, by rw [hH]; simp⟩
      · rw [hG'nr b' o' hr] at h1
        refine ⟨k', h1, ?_⟩
        simp only [St.put_H] at h2
        split at h2
        · rename_i e; subst e; rw [hH]; simp
        · exact h2
    · simp only [St.put_H] at hbk
      split at hbk
      · rename_i e; subst e
        simp only [Option.some.injEq] at hbk; subst hbk
        refine ⟨hk, by simp [G'], by simp [G'], by simpa [G'] using hfit, by simp [G'], fun a ha => ?_⟩
        simp only [G', if_true, Option.some.injEq] at ha ⊢
        subst ha
        refine ⟨.inr rfl, fun j h1 h2 => ?_⟩
        obtain ⟨q1, q2, q3⟩ := hspare j (by rw [Nat.add_mul] at h1; omega) h2
        have hnr : ¬ inR b (off + j) := fun ⟨_, h4, h5⟩ => by rw [hul] at h5; rw [Nat.add_mul] at h1; omega
        refine ⟨?_, by rw [hoth b _ hnr]; exact q2, by rw [hfro]; exact q3⟩
        show G'.cls b (off + j) = .own k'
        rw [hG'nr b _ hnr]; exact q1
      · rename_i e
        obtain ⟨h1, h2⟩ := hS.blk k' bk hbk
        refine ⟨h1, h2.keep hle h1 (by simp [G', e]) (fun ha => ?_) (fun b' o' hb hcl hfr => ?_)⟩
        · by_cases hpb : G.ptr k' = b
          · have hus : us = [] := by
              cases hus : us with
              | nil => rfl
              | cons u0 us0 =>
                have := (hin 0 (by rw [hus]; simp)).1
                rw [← hpb, ha] at this
                simp only [Cls.own.injEq] at this; exact absurd this e
            subst hus
            have hw' : w' = w := by rw [← hww]; rfl
            exact ⟨by rw [hw'], fun o => by rw [hG'nr _ _ (fun ⟨h3, h4, h5⟩ => by simp at h5; omega)]; exact ha o⟩
          · exact ⟨hheap _ hpb, fun o => by rw [hG'nr _ _ (fun ⟨h3, _⟩ => hpb h3)]; exact ha o⟩
        · have hnr := hnot b' o' _ hb (by simp; exact e)
          exact ⟨by rw [hG'nr _ _ hnr]; exact hb, by rw [hoth _ _ hnr]; exact hcl, by rw [hfro]; exact hfr⟩
    · by_cases hr : inR b' o'
      · obtain ⟨h1, h2, h3⟩ := hr
        subst h1
        have hj : o' - (off + xs.length * i.size) < us.length := by omega
        have := hcellN (o' - (off + xs.length * i.size)) us[o' - (off + xs.length * i.size)] (by simp [hj])
        rw [show off + xs.length * i.size + (o' - (off + xs.length * i.size)) = o' by omega] at this
        rw [this]; rfl
      · rw [hG'nr b' o' hr] at h
        rw [hoth b' o' hr]; exact hS.set b' o' h
    · rw [hsize] at h
      have hcf := hS.free b' o' h
      rw [hG'nr b' o' (hnot b' o' _ hcf (by simp))]; exact hcf
    · by_cases hr : inR b' o'
      · simp only [G'] at h; rw [if_pos hr] at h; cases h
      · rw [hG'nr b' o' hr] at h; exact hS.own b' o' k' h
    · refine ⟨hk, by simp [G'], fun _ => by simp [G']⟩

end
end Go.Cw
