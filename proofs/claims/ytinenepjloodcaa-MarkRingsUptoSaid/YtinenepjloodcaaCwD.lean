/- EACH OPERATION IS SOUND: those over memory. -/
import Derived.Test.YtinenepjloodcaaCwC
namespace Go.Cw

theorem add_none (b o n : Nat) : (⟨b, o, none⟩ : Addr).add n = ⟨b, o + n, none⟩ := by unfold Addr.add; split <;> simp_all

theorem Sim.drew {G : Gh} {S : St} {w : World} (h : Sim G S w) : Sim G S w.drew := by
  refine ⟨?_, h.own⟩
  have hle : Le G w G w.drew := ⟨fun _ h => h, fun _ _ => rfl, fun _ _ => ⟨Nat.le_refl _, fun _ => rfl⟩, fun _ _ h => h, fun _ _ _ => rfl⟩
  refine ⟨fun k b hb => ?_, h.bnd, h.set, h.free⟩
  obtain ⟨h1, h2⟩ := h.blk k b hb
  refine ⟨h1, ?_⟩
  cases b with
  | cells cs => obtain ⟨vs, e, a1, a2, a3, a4⟩ := h2; exact ⟨vs, e, a1, a2.mono hle, a3, a4⟩
  | fr m wd => exact h2
  | map wd z es cl => obtain ⟨mes, a1, a2, a3, a4⟩ := h2; exact ⟨mes, a1, a2, fun i e m h1 h2 => ⟨(a3 i e m h1 h2).1, (a3 i e m h1 h2).2.1, (a3 i e m h1 h2).2.2.1.mono hle, (a3 i e m h1 h2).2.2.2⟩, a4⟩
  | iter mk since seen last => exact h2

theorem Ext.drew (G : Gh) (S : St) (w : World) : Ext G S w G S w.drew where
  toLe := ⟨fun _ h => h, fun _ _ => rfl, fun _ _ => ⟨Nat.le_refl _, fun _ => rfl⟩, fun _ _ h => h, fun _ _ _ => rfl⟩
  os := rfl
  tape := rfl
  output := rfl
  size := Nat.le_refl _
  kept _ _ _ := rfl
  own _ _ _ k h h' := ⟨k, h, h'⟩

/-- A block's part of a state lasts where its memory does. -/
theorem BlkOk.keep {G G' : Gh} {w w' : World} {k : Nat} {b : Blk} (h : BlkOk G w k b) (hle : Le G w G' w') (hl : G.live k = true) (hvec : G'.vec k = G.vec k)
    (hh : (∀ o, G.cls (G.ptr k) o = .own k) → w'.heap[G.ptr k]? = w.heap[G.ptr k]? ∧ ∀ o, G'.cls (G.ptr k) o = .own k)
    (hc : ∀ b o, G.cls b o = .own k → (w.cell? ⟨b, o, none⟩).isSome = true → w.frozen? ⟨b, o, none⟩ = false → G'.cls b o = .own k ∧ (w'.cell? ⟨b, o, none⟩).isSome = true ∧ w'.frozen? ⟨b, o, none⟩ = false) : BlkOk G' w' k b := by
  cases b with
  | cells cs =>
    obtain ⟨vs, e, a1, a2, a3, a4⟩ := h
    obtain ⟨e1, e2⟩ := hh a4
    exact ⟨vs, e, by rw [hle.ptr k hl, e1, a1], a2.mono hle, a3, fun o => by rw [hle.ptr k hl]; exact e2 o⟩
  | fr m wd =>
    obtain ⟨a1, a2, a3, a4, a5⟩ := h
    refine ⟨by rw [hvec, a1], by rw [hvec, a2], by rw [hvec]; exact a3, by rw [hvec]; exact a4, fun a ha => ?_⟩
    rw [hvec] at ha ⊢
    obtain ⟨b1, b2⟩ := a5 a ha
    exact ⟨b1, fun j h1 h2 => by obtain ⟨c1, c2, c3⟩ := b2 j h1 h2; exact hc _ _ c1 c2 c3⟩
  | map wd z es cl =>
    obtain ⟨mes, a1, a2, a3, a4⟩ := h
    obtain ⟨e1, e2⟩ := hh a4
    exact ⟨mes, by rw [hle.ptr k hl, e1, a1], a2, fun i e m h1 h2 => ⟨(a3 i e m h1 h2).1, (a3 i e m h1 h2).2.1, (a3 i e m h1 h2).2.2.1.mono hle, (a3 i e m h1 h2).2.2.2⟩, fun o => by rw [hle.ptr k hl]; exact e2 o⟩
  | iter mk since seen last =>
    obtain ⟨a1, a2, a4⟩ := h
    obtain ⟨e1, e2⟩ := hh a4
    exact ⟨by rw [hle.ptr k hl, hle.ptr mk a2, e1, a1], hle.live mk a2, fun o => by rw [hle.ptr k hl]; exact e2 o⟩

/-- The marks with a new block's. -/
def Gh.ext (G : Gh) (b : Nat) (c : Nat → Cls) : Gh := { G with cls := fun b' o => if b' = b then c o else G.cls b' o }
/-- .. and with a new name. -/
def Gh.reg (G : Gh) (id b : Nat) (vi : VI) : Gh :=
  { G with live := fun k => if k = id then true else G.live k, ptr := fun k => if k = id then b else G.ptr k, vec := fun k => if k = id then vi else G.vec k }

theorem cell?_alloc_none {w : World} {o : Obj} {b off : Nat} (h : b < w.heap.size) : (w.alloc o).cell? ⟨b, off, none⟩ = w.cell? ⟨b, off, none⟩ := World.cell?_alloc_lt w o ⟨b, off, none⟩ h
theorem frozen?_alloc_none {w : World} {o : Obj} {b off : Nat} (h : b < w.heap.size) : (w.alloc o).frozen? ⟨b, off, none⟩ = w.frozen? ⟨b, off, none⟩ := World.frozen?_alloc_old w o ⟨b, off, none⟩ (Nat.ne_of_lt h)
theorem heap_alloc_lt {w : World} {o : Obj} {b : Nat} (h : b < w.heap.size) : (w.alloc o).heap[b]? = w.heap[b]? := RowKit.Below.heap_alloc w o b h
theorem heap_alloc_at {w : World} {o : Obj} : (w.alloc o).heap[w.heap.size]? = some o := heap_alloc_new w o

theorem SimC.lt {G : Gh} {S : St} {w : World} (h : SimC G S w) {b o : Nat} (hc : G.cls b o ≠ .free) : b < w.heap.size := by
  rcases Nat.lt_or_ge b w.heap.size with h1 | h1
  · exact h1
  · exact absurd (h.free b o h1) hc

theorem Le.ext {G : Gh} {S : St} {w : World} (h : SimC G S w) (c : Nat → Cls) (o : Obj) : Le G w (G.ext w.heap.size c) (w.alloc o) where
  live _ h := h
  ptr _ _ := rfl
  vec _ _ := ⟨Nat.le_refl _, fun _ => rfl⟩
  settled b off hb := by
    have := h.lt (b := b) (o := off) (by rw [hb]; simp)
    simp only [Gh.ext, if_neg (Nat.ne_of_lt this)]; exact hb
  pres b off hb := cell?_alloc_none (h.lt (b := b) (o := off) (by rw [hb]; simp))

theorem Le.reg {G : Gh} {w : World} {id : Nat} (hid : G.live id = false) (b : Nat) (vi : VI) : Le G w (G.reg id b vi) w where
  live k h := by simp only [Gh.reg]; split <;> simp_all
  ptr k h := by simp only [Gh.reg]; split <;> simp_all
  vec k h := by
    have : k ≠ id := fun e => by subst e; simp [hid] at h
    simp [Gh.reg, this]
  settled _ _ h := h
  pres _ _ _ := rfl

theorem SimC.ext {G : Gh} {S : St} {w : World} (h : SimC G S w) (c : Nat → Cls) (o : Obj) (hc : ∀ off, c off = .settled → ((w.alloc o).cell? ⟨w.heap.size, off, none⟩).isSome = true):
    SimC (G.ext w.heap.size c) S (w.alloc o) := by
  have hle := Le.ext h c o
  refine ⟨fun k b hb => ?_, h.bnd, fun b off hb => ?_, fun b off hb => ?_⟩
  · obtain ⟨h1, h2⟩ := h.blk k b hb
    refine ⟨h1, h2.keep hle h1 rfl (fun ha => ?_) (fun b' o' ha hcl hfr => ?_)⟩
    · have hlt := h.lt (b := G.ptr k) (o := 0) (by rw [ha 0]; simp)
      exact ⟨heap_alloc_lt hlt, fun o => by simp only [Gh.ext, if_neg (Nat.ne_of_lt hlt)]; exact ha o⟩
    · have hlt := h.lt (b := b') (o := o') (by rw [ha]; simp)
      exact ⟨by simp only [Gh.ext, if_neg (Nat.ne_of_lt hlt)]; exact ha, by rw [cell?_alloc_none hlt]; exact hcl, by rw [frozen?_alloc_none hlt]; exact hfr⟩
  · simp only [Gh.ext] at hb
    split at hb
    · rename_i e; subst e; exact hc off hb
    · have hlt := h.lt (b := b) (o := off) (by rw [hb]; simp)
      rw [cell?_alloc_none hlt]; exact h.set b off hb
  · simp only [World.size_alloc] at hb
    simp only [Gh.ext]
    rw [if_neg (by omega)]
    exact h.free b off (by omega)

theorem Ext.ext {G : Gh} {S : St} {w : World} (h : SimC G S w) (c : Nat → Cls) (o : Obj) : Ext G S w (G.ext w.heap.size c) S (w.alloc o) where
  toLe := Le.ext h c o
  os := rfl
  tape := rfl
  output := rfl
  size := by simp
  kept b hb _ := heap_alloc_lt hb
  own b hb o k h1 h2 := by
    simp only [Gh.ext, if_neg (Nat.ne_of_lt hb)] at h1
    exact ⟨k, h1, h2⟩

/-- A new name for a block that is known. -/
theorem SimC.reg {G : Gh} {S : St} {w : World} (h : SimC G S w) {id : Nat} (b : Nat) (vi : VI) (hle : Le G w (G.reg id b vi) w) (hn : id < S.n) (blk : Blk) (hb : BlkOk (G.reg id b vi) w id blk) :
    SimC (G.reg id b vi) (S.put id blk) w := by
  refine ⟨fun k b' hb' => ?_, fun k hk => ?_, h.set, h.free⟩
  · simp only [St.put_H] at hb'
    split at hb'
    · rename_i e; subst e; simp only [Option.some.injEq] at hb'; subst hb'; exact ⟨by simp [Gh.reg], hb⟩
    · rename_i e
      obtain ⟨h1, h2⟩ := h.blk k b' hb'
      exact ⟨hle.live k h1, h2.keep hle h1 (by simp [Gh.reg, e]) (fun ha => ⟨rfl, ha⟩) (fun _ _ h1 h2 h3 => ⟨h1, h2, h3⟩)⟩
  · simp only [Gh.reg] at hk
    split at hk
    · rename_i e; subst e; exact hn
    · exact h.bnd k hk

theorem Ext.reg {G : Gh} {S S0 : St} {w0 w : World} {G0 : Gh} (h : Ext G0 S0 w0 G S w) {id : Nat} (b : Nat) (vi : VI) (hle : Le G w (G.reg id b vi) w) (blk : Blk)
    (hown : ∀ b', b' < w0.heap.size → ∀ o, G.cls b' o = .own id → ∃ k', G0.cls b' o = .own k' ∧ S0.H k' ≠ none) : Ext G0 S0 w0 (G.reg id b vi) (S.put id blk) w where
  toLe := h.toLe.trans hle
  os := h.os
  tape := h.tape
  output := h.output
  size := h.size
  kept := h.kept
  own b' hb o k h1 h2 := by
    simp only [Gh.reg] at h1
    by_cases e : k = id
    · subst e; exact hown b' hb o h1
    · simp only [St.put_H, if_neg e] at h2; exact h.own b' hb o k h1 h2

theorem no_own {G : Gh} {S : St} {w : World} {id : Nat} (hS : Sim G S w) (hid : G.live id = false) (b o : Nat) : G.cls b o ≠ .own id := fun h => by
  have := hS.own b o id h
  rw [hid] at this; cases this

/-- A new block, under a new name or not. -/
theorem newNamed {G : Gh} {S : St} {w : World} {id : Nat} (hS : Sim G S w) (hid : G.live id = false) (hn : id < S.n) (c : Nat → Cls) (o : Obj)
    (hc : ∀ off, c off = .settled → ((w.alloc o).cell? ⟨w.heap.size, off, none⟩).isSome = true) (hco : ∀ off k, c off = .own k → k = id) (b : Nat) (vi : VI) (blk : Blk)
    (hb : BlkOk ((G.ext w.heap.size c).reg id b vi) (w.alloc o) id blk) :
    Ext G S w ((G.ext w.heap.size c).reg id b vi) (S.put id blk) (w.alloc o) ∧ Sim ((G.ext w.heap.size c).reg id b vi) (S.put id blk) (w.alloc o) ∧
      ∀ k, ((G.ext w.heap.size c).reg id b vi).live k = true → G.live k = true ∨ k = id := by
  have hle : Le (G.ext w.heap.size c) (w.alloc o) ((G.ext w.heap.size c).reg id b vi) (w.alloc o) := Le.reg (G := G.ext w.heap.size c) hid b vi
  refine ⟨(Ext.ext hS.toSimC c o).reg b vi hle blk (fun b' hb' off h => ?_), ⟨(hS.toSimC.ext c o hc).reg b vi hle hn blk hb, fun b' off k h => ?_⟩, fun k hk => ?_⟩
  · simp only [Gh.ext, if_neg (Nat.ne_of_lt hb')] at h
    exact absurd h (no_own hS hid _ _)
  · simp only [Gh.reg, Gh.ext] at h ⊢
    split
    · rfl
    · rename_i hk
      split at h
      · exact absurd (hco _ _ h) hk
      · exact hS.own _ _ _ h
  · simp only [Gh.reg] at hk
    split at hk
    · rename_i e; exact .inr e
    · exact .inl hk

theorem Le.upd {G : Gh} {w : World} {id : Nat} (vi : VI) (hv : (G.vec id).m < vi.m) : Le G w (G.reg id (G.ptr id) vi) w where
  live k h := by simp only [Gh.reg]; split <;> simp_all
  ptr k h := by simp only [Gh.reg]; split <;> simp_all
  vec k h := by
    simp only [Gh.reg]
    split
    · rename_i e; subst e; exact ⟨Nat.le_of_lt hv, fun e => by omega⟩
    · exact ⟨Nat.le_refl _, fun _ => rfl⟩
  settled _ _ h := h
  pres _ _ _ := rfl

/-- A new block under a name that is there. -/
theorem newAgain {G : Gh} {S : St} {w : World} {id : Nat} (hS : Sim G S w) (hid : G.live id = true) (hH : S.H id ≠ none) (c : Nat → Cls) (o : Obj)
    (hc : ∀ off, c off = .settled → ((w.alloc o).cell? ⟨w.heap.size, off, none⟩).isSome = true) (hco : ∀ off k, c off = .own k → k = id) (vi : VI) (hv : (G.vec id).m < vi.m) (blk : Blk)
    (hb : BlkOk ((G.ext w.heap.size c).reg id (G.ptr id) vi) (w.alloc o) id blk) :
    Ext G S w ((G.ext w.heap.size c).reg id (G.ptr id) vi) (S.put id blk) (w.alloc o) ∧ Sim ((G.ext w.heap.size c).reg id (G.ptr id) vi) (S.put id blk) (w.alloc o) ∧
      ∀ k, ((G.ext w.heap.size c).reg id (G.ptr id) vi).live k = true → G.live k = true := by
  have hle : Le (G.ext w.heap.size c) (w.alloc o) ((G.ext w.heap.size c).reg id (G.ptr id) vi) (w.alloc o) := Le.upd (G := G.ext w.heap.size c) vi hv
  refine ⟨(Ext.ext hS.toSimC c o).reg (G.ptr id) vi hle blk (fun b' hb' off h => ?_), ⟨(hS.toSimC.ext c o hc).reg (G.ptr id) vi hle (hS.bnd id hid) blk hb, fun b' off k h => ?_⟩, fun k hk => ?_⟩
  · simp only [Gh.ext, if_neg (Nat.ne_of_lt hb')] at h
    exact ⟨id, h, hH⟩
  · simp only [Gh.reg, Gh.ext] at h ⊢
    split
    · rfl
    · rename_i hk
      split at h
      · exact absurd (hco _ _ h) hk
      · exact hS.own _ _ _ h
  · simp only [Gh.reg] at hk
    split at hk
    · rename_i e; subst e; exact hid
    · exact hk

theorem newSettled {G : Gh} {S : St} {w : World} (hS : Sim G S w) (c : Nat → Cls) (o : Obj)
    (hc : ∀ off, c off = .settled → ((w.alloc o).cell? ⟨w.heap.size, off, none⟩).isSome = true) (hco : ∀ off k, c off ≠ .own k) :
    Ext G S w (G.ext w.heap.size c) S (w.alloc o) ∧ Sim (G.ext w.heap.size c) S (w.alloc o) := by
  refine ⟨Ext.ext hS.toSimC c o, hS.toSimC.ext c o hc, fun b' off k h => ?_⟩
  simp only [Gh.ext] at h
  split at h
  · exact absurd h (hco _ _)
  · exact hS.own _ _ _ h

/-- A new block of cells under a new name. -/
theorem okNewCells {G : Gh} {S : St} {w : World} {id : Nat} {K : AV → St → Prop} (hS : Sim G S w) (hid : G.live id = false) (hn : id < S.n)
    {cs : List AV} {vs : List Value} (hr : RepL G w cs vs) (h1 : ∀ v ∈ vs, v.oneCell' = true) (e : TypeId) (hK : K (.ptr id 0) (S.put id (.cells cs))) :
    OkRun G S w id K (.ok (.pointer (some ⟨w.heap.size, 0, none⟩)) (w.alloc (.cells vs.toArray e))) := by
  have he := Ext.ext hS.toSimC (fun _ => .own id) (.cells vs.toArray e)
  obtain ⟨h2, h3, h4⟩ := newNamed hS hid hn (fun _ => .own id) (.cells vs.toArray e) (by simp) (by simp) w.heap.size ⟨none, 0, 0, 0⟩ (.cells cs) (by
    refine ⟨vs.toArray, e, ?_, ?_, by simpa using h1, fun o => ?_⟩
    · simp only [Gh.reg, if_true]; exact heap_alloc_at
    · exact (hr.mono he.toLe).mono (Le.reg (G := G.ext w.heap.size fun _ => .own id) hid _ _)
    · simp [Gh.reg, Gh.ext])
  refine ⟨_, _, .ptr id 0, S.put id (.cells cs), _, rfl, hK, h2, h3, ?_, h4⟩
  have : Rep ((G.ext w.heap.size fun _ => .own id).reg id w.heap.size ⟨none, 0, 0, 0⟩) (w.alloc (.cells vs.toArray e)) (.ptr id 0) (.pointer (some ⟨((G.ext w.heap.size fun _ => .own id).reg id w.heap.size ⟨none, 0, 0, 0⟩).ptr id, 0, none⟩)) :=
    .ptr (by simp [Gh.reg])
  simpa [Gh.reg] using this

end Go.Cw
