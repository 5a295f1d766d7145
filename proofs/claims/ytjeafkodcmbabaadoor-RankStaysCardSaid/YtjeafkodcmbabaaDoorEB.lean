/- E, a reader of Go's code as the model has it: a contract of a function is proved over values that are told without memory (EB). -/
import Derived.Test.YtjeafkodcmbabaaDoorEA

set_option linter.unusedVariables false
set_option linter.unusedSimpArgs false
open Go
namespace Go.Proofs.YtjeafkodcmbabaaDoor.E
set_option linter.unusedVariables false
set_option linter.unusedSimpArgs false
/-! ## Labels: dropped, made -/
mutual
def kill (l : Nat) : AV → AV
  | .ptr k off => if k = l then .dead else .ptr k off
  | .ref k off n z => if k = l then .dead else .ref k off n z
  | .agg cs => .agg (kills l cs)
  | .tup cs => .tup (kills l cs)
  | .clo f cs => .clo f (kills l cs)
  | .ifc t c => .ifc t (kill l c)
  | .val v => .val v
  | .sl n cs => .sl n cs
  | .fptr cs => .fptr cs
  | .emp => .emp
  | .dead => .dead
def kills (l : Nat) : List AV → List AV
  | [] => []
  | c :: cs => kill l c :: kills l cs
end

def rdel (l : Nat) (ρ : Rho) : Rho := fun k => if k = l then none else ρ k
def rset (l : Nat) (x : Nat × Nat) (ρ : Rho) : Rho := fun k => if k = l then some x else ρ k

mutual
theorem kill_rel {ρ F w} (l : Nat) : ∀ (c : AV) (v : Value), VR ρ F w c v → VR (rdel l ρ) F w (kill l c) v
  | .ptr k off, v, h => by
    simp only [kill]
    split
    · simp only [VR]
    · rename_i hk
      simp only [VR, rdel, if_neg hk] at h ⊢
      exact h
  | .ref k off n z, v, h => by
    simp only [kill]
    split
    · simp only [VR]
    · rename_i hk
      simp only [VR, rdel, if_neg hk] at h ⊢
      exact h
  | .agg cs, v, h => by simp only [kill, VR] at h ⊢; obtain ⟨vs, e, h⟩ := h; exact ⟨vs, e, kills_rel l cs vs h⟩
  | .tup cs, v, h => by simp only [kill, VR] at h ⊢; obtain ⟨vs, e, h⟩ := h; exact ⟨vs, e, kills_rel l cs vs h⟩
  | .clo f cs, v, h => by simp only [kill, VR] at h ⊢; obtain ⟨vs, e, h⟩ := h; exact ⟨vs, e, kills_rel l cs vs h⟩
  | .ifc t c, v, h => by simp only [kill, VR] at h ⊢; obtain ⟨u, e, h⟩ := h; exact ⟨u, e, kill_rel l c u h⟩
  | .val u, v, h => by simpa only [kill, VR] using h
  | .sl n cs, v, h => by simpa only [kill, VR] using h
  | .fptr cs, v, h => by simpa only [kill, VR] using h
  | .emp, v, h => by simpa only [kill, VR] using h
  | .dead, v, h => by simp only [kill, VR]
theorem kills_rel {ρ F w} (l : Nat) : ∀ (cs : List AV) (vs : List Value), VRs ρ F w cs vs → VRs (rdel l ρ) F w (kills l cs) vs
  | [], vs, h => by simpa only [kills, VRs] using h
  | c :: cs, vs, h => by
    simp only [kills, VRs] at h ⊢
    obtain ⟨v, rest, e, hv, h⟩ := h
    exact ⟨v, rest, e, kill_rel l c v hv, kills_rel l cs rest h⟩
end
theorem kills_len (l : Nat) : ∀ (cs : List AV), (kills l cs).length = cs.length
  | [] => rfl
  | c :: cs => by simp [kills, kills_len l cs]

def mapT (f : AV → AV) : List (Nat × AV) → List (Nat × AV)
  | [] => []
  | (k, v) :: r => (k, f v) :: mapT f r
def mapH (l : Nat) : List (Nat × Blk) → List (Nat × Blk)
  | [] => []
  | (k, B) :: r => (k, if B.boxy then { B with cs := kills l B.cs } else B) :: mapH l r
theorem mem_mapT {f : AV → AV} {t : Nat} {v : AV} : ∀ {l : List (Nat × AV)}, (t, v) ∈ mapT f l → ∃ u, (t, u) ∈ l ∧ v = f u
  | [], h => by simp [mapT] at h
  | (k, x) :: r, h => by
    simp only [mapT, List.mem_cons, Prod.mk.injEq] at h
    rcases h with ⟨rfl, rfl⟩ | h
    · exact ⟨x, by simp, rfl⟩
    · obtain ⟨u, hu, e⟩ := mem_mapT h; exact ⟨u, List.mem_cons_of_mem _ hu, e⟩
theorem mem_mapH {l k : Nat} {B : Blk} : ∀ {h : List (Nat × Blk)}, (k, B) ∈ mapH l h → ∃ C, (k, C) ∈ h ∧ B = if C.boxy then { C with cs := kills l C.cs } else C
  | [], h => by simp [mapH] at h
  | (j, x) :: r, h => by
    simp only [mapH, List.mem_cons, Prod.mk.injEq] at h
    rcases h with ⟨rfl, rfl⟩ | h
    · exact ⟨x, by simp, rfl⟩
    · obtain ⟨u, hu, e⟩ := mem_mapH h; exact ⟨u, List.mem_cons_of_mem _ hu, e⟩

def St.drop (st : St) (l : Nat) : St := { n := st.n, t := mapT (kill l) st.t, h := mapH l (del l st.h) }

theorem HRel.drop {ρ F h w} (hr : HRel ρ F h w) (l : Nat) : HRel (rdel l ρ) F (mapH l (del l h)) w where
  blk := fun k B hB => by
    obtain ⟨C, hC, rfl⟩ := mem_mapH hB
    obtain ⟨hC, hne⟩ := mem_del hC
    have hne' : k ≠ l := hne
    rcases hr.blk k C hC with ⟨h0, h1⟩ | ⟨r, m, c, h1, h2, h3, vs, h4, h5⟩
    · refine .inl ⟨?_, by simp [rdel, h1]⟩
      split <;> simp [h0, kills]
    · refine .inr ⟨r, m, c, by simp [rdel, hne', h1], ?_, h3, vs, ?_, h5⟩
      · split <;> exact h2
      · cases hb : C.boxy
        · simpa [hb] using h4
        · simp only [hb, if_true] at h4 ⊢; exact kills_rel l _ _ h4
  inj := fun k k' r m m' h h' => by
    simp only [rdel] at h h'
    split at h
    · cases h
    · split at h'
      · cases h'
      · exact hr.inj k k' r m m' h h'
  apart := fun k r m h => by simp only [rdel] at h; split at h; cases h; exact hr.apart k r m h
  lt := fun k r m h => by simp only [rdel] at h; split at h; cases h; exact hr.lt k r m h
  flt := hr.flt
  glb := hr.glb

theorem Rel.drop {ρ F st a w} (h : Rel ρ F st a w) (l : Nat) : Rel (rdel l ρ) F (st.drop l) a w where
  heap := h.heap.drop l
  size := h.size
  defers := h.defers
  tmps := fun t v hv => by
    obtain ⟨u, hu, rfl⟩ := mem_mapT hv
    exact ⟨(h.tmps t u hu).1, kill_rel l _ _ (h.tmps t u hu).2⟩

theorem Fr.drop (ρ : Rho) (F : Nat → Prop) (w : World) (l : Nat) : Fr ρ F w (rdel l ρ) F w where
  os := rfl
  tape := rfl
  output := rfl
  size := Nat.le_refl _
  block := fun _ _ _ => rfl
  froz := fun _ h => h
  froz' := fun _ h => .inl h
  own := fun k r m h => by simp only [rdel] at h; split at h; cases h; exact .inl ⟨k, m, h⟩
  same := fun k _ x y h h' => by simp only [rdel] at h'; split at h'; cases h'; rw [h] at h'; exact Option.some.inj h'
  gone := fun k _ h => by simp only [rdel]; split <;> simp_all

/-- A world that has one block more. -/
structure Grew (w w' : World) (c : Array Value) (e : TypeId) : Prop where
  os : w'.os = w.os
  tape : w'.tape = w.tape
  output : w'.output = w.output
  heap : ∃ fr : Nat × Nat, w'.heap = w.heap.push (.cells c e fr) ∧ (fr.2 = 0 ∨ c.size ≤ fr.1)

theorem Grew.alloc (w : World) (c : Array Value) (e : TypeId) : Grew w (w.alloc (.cells c e)) c e := ⟨rfl, rfl, rfl, _, rfl, .inl rfl⟩
theorem Grew.drew (w : World) (c : Array Value) (e : TypeId) : Grew w (w.drew.alloc (.cells c e)) c e := ⟨rfl, rfl, rfl, _, rfl, .inl rfl⟩
theorem Grew.old {w w' c e} (g : Grew w w' c e) {k : Nat} (h : k < w.heap.size) : w'.heap[k]? = w.heap[k]? := by
  obtain ⟨fr, hh, _⟩ := g.heap; rw [hh, Array.getElem?_push, if_neg (by omega)]
theorem Grew.new {w w' c e} (g : Grew w w' c e) : Cel w'.heap[w.heap.size]? c e := by obtain ⟨fr, hh, h1⟩ := g.heap; exact ⟨fr, by rw [hh]; simp, h1⟩
theorem Grew.size {w w' c e} (g : Grew w w' c e) : w'.heap.size = w.heap.size + 1 := by obtain ⟨fr, hh, _⟩ := g.heap; rw [hh]; simp
theorem Grew.cell {w w' c e} (g : Grew w w' c e) {b off : Nat} {v : Value} (h : w.cell? ⟨b, off, none⟩ = some v) : w'.cell? ⟨b, off, none⟩ = some v := by
  have hlt : b < w.heap.size := World.block_lt_of_cell? w ⟨b, off, none⟩ h
  simp only [World.cell?, g.old hlt] at h ⊢
  exact h

theorem HRel.new {ρ F h w w' c e} (hr : HRel ρ F h w) (g : Grew w w' c e) {L : Nat} (hL : ρ L = none) {B : Blk} (he : B.e = e) {vs : List Value} (hv : VRs (if B.boxy then ρ else fun _ => none) F w B.cs vs) (hle : vs.length ≤ c.size)
    (hc : ∀ (i : Nat) v, vs[i]? = some v → c[i]? = some v ∧ v.oneCell' = true) : HRel (rset L (w.heap.size, c.size) ρ) F (ins L B h) w' where
  blk := fun k C hC => by
    have ho : ∀ l x, ρ l = some x → rset L (w.heap.size, c.size) ρ l = some x := by
      intro l x hx
      simp only [rset]
      split
      · subst_vars; rw [hL] at hx; cases hx
      · exact hx
    rcases mem_ins hC with e1 | ⟨hC, hne⟩
    · cases e1
      refine .inr ⟨w.heap.size, c.size, c, by simp [rset], by rw [he]; exact g.new, rfl, vs, ?_, hle, hc⟩
      split
      · rename_i hb; simp only [hb, if_true] at hv
        exact VRs.keep (fun _ h => h) (fun b off v _ h => g.cell h) ho _ _ hv
      · rename_i hb; simp only [hb, Bool.false_eq_true, if_false] at hv
        exact VRs.keep (fun _ h => h) (fun b off v _ h => g.cell h) (fun _ _ h => h) _ _ hv
    · rcases hr.blk k C hC with ⟨h0, h1⟩ | ⟨r, m, c', h1, h2, h3, vs', h4, h5⟩
      · exact .inl ⟨h0, by simp only [rset]; rw [if_neg hne]; exact h1⟩
      · refine .inr ⟨r, m, c', ho _ _ h1, by rw [g.old (hr.lt k r m h1)]; exact h2, h3, vs', ?_, h5⟩
        split
        · rename_i hb; simp only [hb, if_true] at h4
          exact VRs.keep (fun _ h => h) (fun b off v _ h => g.cell h) ho _ _ h4
        · rename_i hb; simp only [hb, Bool.false_eq_true, if_false] at h4
          exact VRs.keep (fun _ h => h) (fun b off v _ h => g.cell h) (fun _ _ h => h) _ _ h4
  inj := fun k k' r m m' h h' => by
    simp only [rset] at h h'
    split at h
    · split at h'
      · simp_all
      · cases h; have := hr.lt _ _ _ h'; omega
    · split at h'
      · cases h'; have := hr.lt _ _ _ h; omega
      · exact hr.inj k k' r m m' h h'
  apart := fun k r m h hf => by
    simp only [rset] at h
    split at h
    · cases h; have := hr.flt _ hf; omega
    · exact hr.apart k r m h hf
  lt := fun k r m h => by
    rw [g.size]
    simp only [rset] at h
    split at h
    · cases h; omega
    · have := hr.lt k r m h; omega
  flt := fun b hb => by rw [g.size]; have := hr.flt b hb; omega
  glb := fun k v hk => ⟨(hr.glb k v hk).1, g.cell (hr.glb k v hk).2⟩

theorem Fr.new {ρ F w w' c e} (g : Grew w w' c e) {L : Nat} (hL : ρ L = none) (h1 : 1000 ≤ L) (m : Nat) : Fr ρ F w (rset L (w.heap.size, m) ρ) F w' where
  os := g.os
  tape := g.tape
  output := g.output
  size := by rw [g.size]; omega
  block := fun k hk _ => g.old hk
  froz := fun _ h => h
  froz' := fun _ h => .inl h
  own := fun k r m h => by
    simp only [rset] at h
    split at h
    · cases h; exact .inr (Nat.le_refl _)
    · exact .inl ⟨k, m, h⟩
  same := fun k hk x y h h' => by
    simp only [rset] at h'
    split at h'
    · omega
    · rw [h] at h'; exact Option.some.inj h'
  gone := fun k hk h => by
    simp only [rset]
    split
    · omega
    · exact h

/-- A new block, in a slot. -/
def St.new (st : St) (L : Nat) (B : Blk) : St := { (st.drop L) with h := ins L B (st.drop L).h }

theorem Rel.new {ρ F st a w w' c e} (hR : Rel ρ F st a w) (g : Grew w w' c e) {L : Nat} {B : Blk} (he : B.e = e) {vs : List Value} (hv : VRs (if B.boxy then rdel L ρ else fun _ => none) F w B.cs vs) (hle : vs.length ≤ c.size)
    (hc : ∀ (i : Nat) v, vs[i]? = some v → c[i]? = some v ∧ v.oneCell' = true) : Rel (rset L (w.heap.size, c.size) (rdel L ρ)) F (st.new L B) a w' := by
  have hd := hR.drop L
  have hL : rdel L ρ L = none := by simp [rdel]
  refine ⟨hd.heap.new g hL he hv hle hc, hd.size, hd.defers, ?_⟩
  intro t v hv
  obtain ⟨h1, h2⟩ := hd.tmps t v hv
  refine ⟨h1, VR.keep (fun _ h => h) (fun b off v _ h => g.cell h) ?_ _ _ h2⟩
  intro l x hx
  simp only [rset]
  split
  · subst_vars; rw [hL] at hx; cases hx
  · exact hx

theorem Fr.new' {ρ F w w' c e} (g : Grew w w' c e) {L : Nat} (h1 : 1000 ≤ L) (m : Nat) : Fr ρ F w (rset L (w.heap.size, m) (rdel L ρ)) F w' :=
  (Fr.drop ρ F w L).trans (Fr.new g (by simp [rdel]) h1 m)

/-- An own block is written. -/
theorem HRel.write {ρ F h w} (hr : HRel ρ F h w) {l r m : Nat} {B B' : Blk} (hB : get? l h = some B) (hl : ρ l = some (r, m)) (he : B'.e = B.e) {c' : Array Value} (hs : c'.size = m)
    {vs : List Value} (hv : VRs (if B'.boxy then ρ else fun _ => none) F w B'.cs vs) (hle : vs.length ≤ m) (hc : ∀ (i : Nat) v, vs[i]? = some v → c'[i]? = some v ∧ v.oneCell' = true) : HRel ρ F (ins l B' h) (w.setRow r c') := by
  obtain ⟨c, hh, hcs, _⟩ := hr.cells hB hl
  have hcell : ∀ b off v, F b → w.cell? ⟨b, off, none⟩ = some v → (w.setRow r c').cell? ⟨b, off, none⟩ = some v := by
    intro b off v hb h
    have hne : b ≠ r := fun e => hr.apart l r m hl (e ▸ hb)
    simp only [World.cell?, setRow_other _ _ _ _ hne] at h ⊢
    exact h
  refine ⟨?_, hr.inj, hr.apart, fun k r' m' h => by simpa [World.setRow] using hr.lt k r' m' h, fun b hb => by simpa [World.setRow] using hr.flt b hb, fun k v hk => ⟨(hr.glb k v hk).1, hcell k 0 v (hr.glb k v hk).1 (hr.glb k v hk).2⟩⟩
  intro k C hC
  rcases mem_ins hC with e1 | ⟨hC, hne⟩
  · cases e1
    refine .inr ⟨r, m, c', hl, by rw [he]; obtain ⟨fr, hh, hfr⟩ := hh; exact ⟨fr, setRow_heap w r c c' _ _ hh, hfr.imp_right fun h => by omega⟩, hs, vs, ?_, hle, hc⟩
    split
    · rename_i hb; simp only [hb, if_true] at hv; exact VRs.keep (fun _ h => h) hcell (fun _ _ h => h) _ _ hv
    · rename_i hb; simp only [hb, Bool.false_eq_true, if_false] at hv; exact VRs.keep (fun _ h => h) hcell (fun _ _ h => h) _ _ hv
  · rcases hr.blk k C hC with h0 | ⟨r', m', c2, h1, h2, h3, vs', h4, h5⟩
    · exact .inl h0
    · have hne' : r' ≠ r := fun e => hne (hr.inj k l r m' m (e ▸ h1) hl)
      refine .inr ⟨r', m', c2, h1, by rw [setRow_other _ _ _ _ hne']; exact h2, h3, vs', ?_, h5⟩
      split
      · rename_i hb; simp only [hb, if_true] at h4; exact VRs.keep (fun _ h => h) hcell (fun _ _ h => h) _ _ h4
      · rename_i hb; simp only [hb, Bool.false_eq_true, if_false] at h4; exact VRs.keep (fun _ h => h) hcell (fun _ _ h => h) _ _ h4

theorem Rel.write {ρ F st a w} (hR : Rel ρ F st a w) {l r m : Nat} {B B' : Blk} (hB : get? l st.h = some B) (hl : ρ l = some (r, m)) (he : B'.e = B.e) {c' : Array Value} (hs : c'.size = m)
    {vs : List Value} (hv : VRs (if B'.boxy then ρ else fun _ => none) F w B'.cs vs) (hle : vs.length ≤ m) (hc : ∀ (i : Nat) v, vs[i]? = some v → c'[i]? = some v ∧ v.oneCell' = true) : Rel ρ F { st with h := ins l B' st.h } a (w.setRow r c') := by
  refine ⟨hR.heap.write hB hl he hs hv hle hc, hR.size, hR.defers, ?_⟩
  intro t v hv
  obtain ⟨h1, h2⟩ := hR.tmps t v hv
  refine ⟨h1, VR.keep (fun _ h => h) ?_ (fun _ _ h => h) _ _ h2⟩
  intro b off v hb h
  have hne : b ≠ r := fun e => hR.heap.apart l r m hl (e ▸ hb)
  simp only [World.cell?, setRow_other _ _ _ _ hne] at h ⊢
  exact h

theorem Fr.write {ρ : Rho} {F : Nat → Prop} {w : World} {l r m : Nat} (hl : ρ l = some (r, m)) (c' : Array Value) : Fr ρ F w ρ F (w.setRow r c') where
  os := rfl
  tape := rfl
  output := rfl
  size := by simp [World.setRow]
  block := fun k hk h => setRow_other _ _ _ _ (fun e => h l r m hl e.symm)
  froz := fun _ h => h
  froz' := fun _ h => .inl h
  own := fun k r m h => .inl ⟨k, m, h⟩
  same := fun k hk x y h h' => by rw [h] at h'; exact Option.some.inj h'
  gone := fun k hk h => h
end Go.Proofs.YtjeafkodcmbabaaDoor.E

namespace Go.Proofs.YtjeafkodcmbabaaDoor.E
set_option linter.unusedVariables false
set_option linter.unusedSimpArgs false
/-! ## Operations on memory -/
mutual
def AV.free : AV → Bool
  | .ptr .. | .ref .. => false
  | .agg cs | .tup cs | .clo _ cs => frees cs
  | .ifc _ c => c.free
  | _ => true
def frees : List AV → Bool
  | [] => true
  | c :: cs => c.free && frees cs
end
mutual
theorem free_rel {ρ ρ' : Rho} {F w} : ∀ (c : AV) (v : Value), c.free = true → VR ρ F w c v → VR ρ' F w c v
  | .ptr _ _, _, h, _ => by simp [AV.free] at h
  | .ref _ _ _ _, _, h, _ => by simp [AV.free] at h
  | .agg cs, v, h, k => by simp only [AV.free, VR] at h k ⊢; obtain ⟨vs, e, k⟩ := k; exact ⟨vs, e, frees_rel cs vs h k⟩
  | .tup cs, v, h, k => by simp only [AV.free, VR] at h k ⊢; obtain ⟨vs, e, k⟩ := k; exact ⟨vs, e, frees_rel cs vs h k⟩
  | .clo f cs, v, h, k => by simp only [AV.free, VR] at h k ⊢; obtain ⟨vs, e, k⟩ := k; exact ⟨vs, e, frees_rel cs vs h k⟩
  | .ifc t c, v, h, k => by simp only [AV.free, VR] at h k ⊢; obtain ⟨u, e, k⟩ := k; exact ⟨u, e, free_rel c u h k⟩
  | .val _, v, h, k => by simpa only [VR] using k
  | .sl _ _, v, h, k => by simpa only [VR] using k
  | .fptr _, v, h, k => by simpa only [VR] using k
  | .emp, v, h, k => by simpa only [VR] using k
  | .dead, v, h, k => by simp only [VR]
theorem frees_rel {ρ ρ' : Rho} {F w} : ∀ (cs : List AV) (vs : List Value), frees cs = true → VRs ρ F w cs vs → VRs ρ' F w cs vs
  | [], vs, h, k => by simpa only [VRs] using k
  | c :: cs, vs, h, k => by
    simp only [frees, Bool.and_eq_true, VRs] at h k ⊢
    obtain ⟨v, rest, e, hv, k⟩ := k
    exact ⟨v, rest, e, free_rel c v h.1 hv, frees_rel cs rest h.2 k⟩
end

def lab (d : Tmp) : Nat := 1000 + 16 * d

/-- cells that stand in a slice's memory -/
def srcCells (st : St) (z : Nat) : AV → Option (Nat × List AV)
  | .sl m ds => if ds.length = m * z then some (m, ds) else none
  | .ref l off m z' => (get? l st.h).bind fun B => if z' = z ∧ off + m * z ≤ B.cs.length ∧ (B.boxy = true → frees B.cs = true) then some (m, (B.cs.drop off).take (m * z)) else none
  | .emp => some (0, [])
  | .val (.slice none n c) => if n = 0 then some (0, []) else none
  | _ => none

structure Src (F : Nat → Prop) (w : World) (z m : Nat) (ds : List AV) (x : Value) (us : List Value) : Prop where
  is : ∃ base cap, x = .slice base m cap ∧ (m = 0 ∨ ∃ a, base = some a ∧ ∀ j u, us[j]? = some u → w.cell? (a.add j) = some u)
  len : us.length = m * z
  rel : VRs (fun _ => none) F w ds us
  one : ∀ u ∈ us, u.oneCell' = true

theorem src_rel {ρ F st a w} (hR : Rel ρ F st a w) {z m : Nat} {x : AV} {ds : List AV} {v : Value} (hx : VR ρ F w x v) (h : srcCells st z x = some (m, ds)) : ∃ us, Src F w z m ds v us := by
  unfold srcCells at h
  split at h
  · rename_i m' ds'
    split at h
    · rename_i hl
      simp only [Option.some.injEq, Prod.mk.injEq] at h
      obtain ⟨rfl, rfl⟩ := h
      simp only [VR] at hx
      obtain ⟨base, cap, vs, rfl, h3, h4, hv, hf, hbn, hsp⟩ := hx
      refine ⟨vs, ⟨base, cap, rfl, ?_⟩, by rw [hv.len, hl], hv, ?_⟩
      · cases base with
        | none => have := hbn rfl; exact .inl (by omega)
        | some ad =>
          by_cases hm0 : m' = 0
          · exact .inl hm0
          have hsp := hsp ad rfl (by omega)
          refine .inr ⟨ad, rfl, fun j u hu => ?_⟩
          rw [sp_none hsp] at hf ⊢
          rw [add_none]
          exact (hf.cells j u hu).1
      · intro u hu
        rcases hf with rfl | ⟨b, off, _, _, hc⟩
        · cases hu
        · obtain ⟨i, hi, rfl⟩ := List.getElem_of_mem hu
          exact (hc i _ (List.getElem?_eq_getElem hi)).2
    · cases h
  · rename_i l off m' z'
    simp only [Option.bind_eq_some_iff] at h
    obtain ⟨B, hB, h⟩ := h
    split at h
    · rename_i hc
      simp only [Option.some.injEq, Prod.mk.injEq] at h
      obtain ⟨rfl, rfl⟩ := h
      obtain ⟨rfl, hlen, hfr⟩ := hc
      simp only [VR] at hx
      rcases hx with ⟨r, m2, cap, hlr, rfl, _⟩ | ⟨rfl, base, rfl⟩
      · obtain ⟨c, _, _, vs, hv, hv', hle, hcs⟩ := hR.heap.cells hB hlr
        have hvn : VRs (fun _ => none) F w B.cs vs := by
          cases hb : B.boxy
          · simpa [hb] using hv'
          · exact frees_rel _ _ (hfr hb) hv
        have hvl := hvn.len
        refine ⟨(vs.drop off).take (m' * z'), ⟨_, _, rfl, .inr ⟨_, rfl, ?_⟩⟩, ?_, (hvn.drop _).take _, ?_⟩
        · intro j u hu
          rw [add_none]
          rw [List.getElem?_take] at hu
          split at hu
          · exact (hcs (off + j) u (by simpa using hu)).2.2
          · cases hu
        · simp only [List.length_take, List.length_drop]; omega
        · intro u hu
          obtain ⟨i, hi⟩ := List.mem_iff_getElem?.1 (List.mem_of_mem_drop (List.mem_of_mem_take hu))
          exact (hcs i u hi).2.1
      · refine ⟨[], ⟨base, 0, rfl, .inl rfl⟩, by simp, by simp [VRs], by simp⟩
    · cases h
  · simp only [Option.some.injEq, Prod.mk.injEq] at h
    obtain ⟨rfl, rfl⟩ := h
    simp only [VR] at hx
    obtain ⟨base, rfl⟩ := hx
    exact ⟨[], ⟨base, 0, rfl, .inl rfl⟩, by simp, by simp [VRs], by simp⟩
  · split at h
    · rename_i hn
      subst hn
      simp only [Option.some.injEq, Prod.mk.injEq] at h
      obtain ⟨rfl, rfl⟩ := h
      simp only [VR] at hx
      subst hx
      exact ⟨[], ⟨none, _, rfl, .inl rfl⟩, by simp, by simp [VRs], by simp⟩
    · cases h
  · cases h

/-- A block goes on under another label. -/
theorem Rel.rename {ρ F st a w} (hR : Rel ρ F st a w) {l L r m : Nat} {B : Blk} (hB : get? l st.h = some B) (hl : ρ l = some (r, m)) (hb : B.boxy = false) :
    Rel (rset L (r, m) (rdel L (rdel l ρ))) F ((st.drop l).new L B) a w := by
  have hd := (hR.drop l).drop L
  have hL : rdel L (rdel l ρ) L = none := by simp [rdel]
  have ho : ∀ k x, rdel L (rdel l ρ) k = some x → rset L (r, m) (rdel L (rdel l ρ)) k = some x := by
    intro k x hx
    simp only [rset]
    split
    · subst_vars; rw [hL] at hx; cases hx
    · exact hx
  have hne : ∀ k x, rdel L (rdel l ρ) k = some x → x.1 ≠ r := by
    intro k x hx e
    have hk : ρ k = some x ∧ k ≠ l := by
      simp only [rdel] at hx
      split at hx
      · cases hx
      · split at hx
        · cases hx
        · exact ⟨hx, by assumption⟩
    obtain ⟨x1, x2⟩ := x
    simp only at e; subst e
    exact hk.2 (hR.heap.inj k l _ _ _ hk.1 hl)
  refine ⟨⟨?_, ?_, ?_, ?_, hd.heap.flt, hd.heap.glb⟩, hd.size, hd.defers, ?_⟩
  · intro k C hC
    rcases mem_ins hC with e1 | ⟨hC, hkn⟩
    · cases e1
      rcases hR.heap.blk l B (get?_mem hB) with ⟨_, h0⟩ | ⟨r', m', c, h1, h2, h3, vs, h4, h5⟩
      · rw [hl] at h0; cases h0
      · rw [hl] at h1; cases h1
        exact .inr ⟨r, m, c, by simp [rset], h2, h3, vs, by simpa [hb] using h4, h5⟩
    · rcases hd.heap.blk k C hC with ⟨h0, h1⟩ | ⟨r', m', c, h1, h2, h3, vs, h4, h5⟩
      · exact .inl ⟨h0, by simp only [rset]; rw [if_neg hkn]; exact h1⟩
      · refine .inr ⟨r', m', c, ho _ _ h1, h2, h3, vs, ?_, h5⟩
        split
        · rename_i hb'; simp only [hb', if_true] at h4
          exact VRs.keep (fun _ h => h) (fun _ _ _ _ h => h) ho _ _ h4
        · rename_i hb'; simpa [hb'] using h4
  · intro k k' r1 m1 m2 h h'
    simp only [rset] at h h'
    split at h
    · split at h'
      · simp_all
      · cases h; exact absurd rfl (hne _ _ h')
    · split at h'
      · cases h'; exact absurd rfl (hne _ _ h)
      · exact hd.heap.inj k k' r1 m1 m2 h h'
  · intro k r1 m1 h
    simp only [rset] at h
    split at h
    · cases h; exact hR.heap.apart l r m hl
    · exact hd.heap.apart k r1 m1 h
  · intro k r1 m1 h
    simp only [rset] at h
    split at h
    · cases h; exact hR.heap.lt l r m hl
    · exact hd.heap.lt k r1 m1 h
  · intro t v hv
    obtain ⟨h1, h2⟩ := hd.tmps t v hv
    exact ⟨h1, VR.keep (fun _ h => h) (fun _ _ _ _ h => h) ho _ _ h2⟩

theorem Fr.rename {ρ : Rho} {F : Nat → Prop} {w : World} {l L r m : Nat} (hl : ρ l = some (r, m)) (hL : 1000 ≤ L) : Fr ρ F w (rset L (r, m) (rdel L (rdel l ρ))) F w where
  os := rfl
  tape := rfl
  output := rfl
  size := Nat.le_refl _
  block := fun _ _ _ => rfl
  froz := fun _ h => h
  froz' := fun _ h => .inl h
  own := fun k r' m' h => by
    simp only [rset, rdel] at h
    split at h
    · cases h; exact .inl ⟨l, m, hl⟩
    · split at h
      · cases h
      · exact .inl ⟨k, m', h⟩
  same := fun k hk x y h h' => by
    simp only [rset, rdel] at h'
    split at h'
    · omega
    · split at h'
      · cases h'
      · rw [h] at h'; exact Option.some.inj h'
  gone := fun k hk h => by
    simp only [rset, rdel]
    split
    · omega
    · split
      · rfl
      · exact h

/-- A label of nothing. -/
theorem Rel.blank {ρ F st a w} (hR : Rel ρ F st a w) (L : Nat) (e : TypeId) : Rel (rdel L ρ) F (st.new L ⟨e, false, []⟩) a w := by
  have hd := hR.drop L
  refine ⟨⟨?_, hd.heap.inj, hd.heap.apart, hd.heap.lt, hd.heap.flt, hd.heap.glb⟩, hd.size, hd.defers, hd.tmps⟩
  intro k C hC
  rcases mem_ins hC with e1 | ⟨hC, _⟩
  · cases e1; exact .inl ⟨rfl, by simp [rdel]⟩
  · exact hd.heap.blk k C hC

theorem Cel.frozen {w : World} {r i : Nat} {c : Array Value} {e : TypeId} (h : Cel w.heap[r]? c e) (hi : i < c.size) : w.frozen? ⟨r, i, none⟩ = false := by
  obtain ⟨⟨lo, hi'⟩, h, h1⟩ := h
  simp only [World.frozen?, h, Bool.and_eq_false_imp, decide_eq_true_eq, decide_eq_false_iff_not]
  simp only at h1
  intro h2; omega
theorem run_storeCells_C (P : Program) (g o : Nat) (t : TypeId) : ∀ (vs : List Value) (i : Nat) (cur : Array Value) (w : World), Cel w.heap[g]? cur t → o + i + vs.length ≤ cur.size → (∀ v ∈ vs, v.oneCell' = true) →
    (storeCells ⟨g, o, none⟩ vs i).run P w = .ok () (w.setRow g (cur.toList.take (o + i) ++ vs ++ cur.toList.drop (o + i + vs.length)).toArray)
  | [], i, cur, w, hg, _, _ => by
    obtain ⟨fr, hg, _⟩ := hg
    simp only [storeCells, List.append_nil, List.length_nil, Nat.add_zero, List.take_append_drop, Array.toArray_toList]
    rw [setRow_self w g cur t fr hg]
    rfl
  | v :: rest, i, cur, w, hg', hl, h1 => by
    obtain ⟨fr, hg, hfr⟩ := id hg'
    have hi : o + i < cur.size := by simp at hl; omega
    have hadd : (⟨g, o, none⟩ : Addr).add i = ⟨g, o + i, none⟩ := by unfold Addr.add; split <;> simp_all
    have hcell : w.cell? ⟨g, o + i, none⟩ = some cur[o + i] := by simp [World.cell?, hg, hi]
    have hfro : w.frozen? ⟨g, o + i, none⟩ = false := Cel.frozen hg' hi
    have hst : (store ((⟨g, o, none⟩ : Addr).add i) v).run P w = .ok () (w.setRow g (cur.setIfInBounds (o + i) v)) := by
      rw [hadd, run_store P w _ v _ (h1 v (by simp)), hcell]
      simp [hfro, setCell_eq_setRow w g (o + i) cur t fr v hg]
    have ih := run_storeCells_C P g o t rest (i + 1) (cur.setIfInBounds (o + i) v) (w.setRow g (cur.setIfInBounds (o + i) v)) ⟨fr, setRow_heap w g cur _ t _ hg, by simpa using hfr⟩ (by simp at hl ⊢; omega) (fun x hx => h1 x (by simp [hx]))
    simp only [storeCells, Sem.run_bind, hst, Result.andThen_ok, ih, setRow_setRow]
    congr 3
    have e := list_seg_step cur.toList (o + i) v rest (by simp at hl ⊢; omega)
    simpa [Array.toList_setIfInBounds, Nat.add_assoc] using e
theorem run_append_roomC {P : Program} (w : World) (t ty e : TypeId) (i : TypeInfo) (ht : P.underlying t = some (.slice e)) (hi : P.info? e = some i)
    (g sLen sCap : Nat) (cur : Array Value) (hg : Cel w.heap[g]? cur e)
    (a : Addr) (m c : Nat) (news : List Value) (hl : news.length = m * i.size) (hnews : ∀ j u, news[j]? = some u → w.cell? (a.add j) = some u) (h1 : ∀ u ∈ news, u.oneCell' = true)
    (hroom : sLen + m ≤ sCap) (hfit : sLen * i.size + news.length ≤ cur.size) :
    (Builtin.append_ #[t, t] ty #[.slice (some ⟨g, 0, none⟩) sLen sCap, .slice (some a) m c]).run P w =
      .ok (.slice (some ⟨g, 0, none⟩) (sLen + m) sCap) (w.setRow g (cur.toList.take (sLen * i.size) ++ news ++ cur.toList.drop (sLen * i.size + news.length)).toArray) := by
  have hf := run_firstCells_some (P := P) w i.size m a m c news hl hnews
  have hst := run_storeCells_C P g (sLen * i.size) e news 0 cur w hg (by simpa using hfit) h1
  simp only [Nat.add_zero] at hst
  simp [Builtin.append_, run_underlying ht, sizeOf, typeInfo, hi, Builtin.lenOf, hroom, hf, Addr.add_lit, hst]
def aApp (P : Program) (st : St) (d : Tmp) (t : TypeId) (s x : AV) : Option (AV × St) :=
  match tSlice P t with
  | none => none
  | some e => match tSz P e, tBytes P e, tZero P e with
    | some z, some by_, some zs => (srcCells st z x).bind fun (m, ds) => match s with
      | .emp => if 0 < z ∧ zs.length = z ∧ m * by_ ≤ 140737488355328 ∧ m ≤ 4611686018427387904 then some (.ref (lab d) 0 m z, st.new (lab d) ⟨e, false, ds⟩) else none
      | .val (.slice none n c) => if n = 0 ∧ c = 0 ∧ 0 < z ∧ zs.length = z ∧ m * by_ ≤ 140737488355328 ∧ m ≤ 4611686018427387904 then some (.ref (lab d) 0 m z, st.new (lab d) ⟨e, false, ds⟩) else none
      | .ref l off n z' => (get? l st.h).bind fun B => if off = 0 ∧ z' = z ∧ B.e = e ∧ B.boxy = false ∧ B.cs.length = n * z ∧ 0 < z ∧ zs.length = z ∧ (n + m) * by_ ≤ 140737488355328 ∧ n + m ≤ 4611686018427387904 then
          (let L := if l < 1000 then lab d else l
           some (.ref L 0 (n + m) z, (st.drop l).new L ⟨e, false, B.cs ++ ds⟩)) else none
      | _ => none
    | _, _, _ => none

theorem info_of {P : Program} {e z by_ : Nat} {zs : List Value} (hz : tSz P e = some z) (hb : tBytes P e = some by_) (h0 : tZero P e = some zs) : ∃ i zv, P.info? e = some i ∧ i.size = z ∧ i.bytes = by_ ∧ i.zero = some zv ∧ zv.cells.toList = zs := by
  simp only [tSz, tBytes, tZero, Option.map_eq_some_iff, Option.bind_eq_some_iff] at hz hb h0
  obtain ⟨i, hi, rfl⟩ := hz
  obtain ⟨i', hi', rfl⟩ := hb
  obtain ⟨zv, ⟨i'', hi'', hzv⟩, rfl⟩ := h0
  rw [hi] at hi' hi''
  cases hi'; cases hi''
  exact ⟨i, zv, hi, rfl, rfl, hzv, rfl⟩

/-- nothing is appended -/
theorem run_app0 {P : Program} {t e ty : TypeId} {z : Nat} {w : World} (hu : P.underlying t = some (.slice e)) (hz : tSz P e = some z) (base base' : Option Addr) (n cap cap' : Nat) (hn : n ≤ cap) :
    (Builtin.append_ #[t, t] ty #[.slice base n cap, .slice base' 0 cap']).run P w = .ok (.slice base n cap) w := by
  cases base <;> cases base' <;> simp [Builtin.append_, run_und hu, run_tSz hz, Builtin.lenOf, hn, Builtin.firstCells, loadCells, loadCellsFrom, storeCells]

/-- a new row of what was and what is new -/
theorem app_new {P : Program} {ρ F st a w} (hR : Rel ρ F st a w) {e z by_ t ty n cap m L : Nat} {i : TypeInfo} {zv : Value} (hu : P.underlying t = some (.slice e)) (hi : P.info? e = some i) (hsz : i.size = z) (hby : i.bytes = by_) (hzv : i.zero = some zv) (hzl : zv.cells.size = z) (h0 : 0 < z)
    (base : Option Addr) {olds : List Value} {as : List AV} (ho : olds.length = n * z) (hoc : (base = none ∧ n = 0 ∧ cap = 0) ∨ ∃ b, base = some b ∧ ∀ j u, olds[j]? = some u → w.cell? (b.add j) = some u) (hor : VRs (fun _ => none) F w as olds) (ho1 : ∀ u ∈ olds, u.oneCell' = true)
    {us : List Value} {ds : List AV} {x : Value} (hs : Src F w z m ds x us) (hm : 0 < m) (hg : cap < n + m) (hb1 : (n + m) * by_ ≤ 140737488355328) (hb2 : n + m ≤ 4611686018427387904) :
    ∃ c w', (Builtin.append_ #[t, t] ty #[.slice base n cap, x]).run P w = .ok (.slice (some ⟨w.heap.size, 0, none⟩) (n + m) (c)) w' ∧ n + m ≤ c ∧ c ≤ maxLen ∧
      Rel (rset L (w.heap.size, c * z) (rdel L ρ)) F (st.new L ⟨e, false, as ++ ds⟩) a w' ∧ ∃ arr, Grew w w' arr e ∧ arr.size = c * z := by
  subst hsz hby
  obtain ⟨⟨bx, cx, rfl, hx⟩, hul, hur, hu1⟩ := hs
  obtain ⟨ax, rfl, hax⟩ := hx.resolve_left (by omega)
  have hge := grownCap_ge w (n + m) cap e
  have hcm : grownCap w (n + m) cap e ≤ maxLen := grownCap_le_maxLen w (n + m) cap e (by simp only [maxLen]; omega)
  refine ⟨grownCap w (n + m) cap e, w.drew.alloc (.cells (olds.toArray ++ us.toArray ++ Builtin.zeroCells zv.cells (grownCap w (n + m) cap e - (n + m))) e), ?_, hge, hcm, ?_, _, Grew.drew _ _ _, ?_⟩
  · rcases hoc with ⟨rfl, rfl, rfl⟩ | ⟨b, rfl, hob⟩
    · have := run_append_nil (P := P) w t ty e i zv hu hi hzv ax m cx us hul hax hm (by omega) (by simp only [Nat.zero_add] at hb1; omega)
      have h3 : olds = [] := List.eq_nil_of_length_eq_zero (by simpa using ho)
      subst h3
      simpa using this
    · exact run_append_grow (P := P) w t ty e i zv hu hi hzv b n cap olds ho hob ax m cx us hul hax hg (by omega) (growslice_fits (by omega) hb1)
  · have harr : (olds.toArray ++ us.toArray ++ Builtin.zeroCells zv.cells (grownCap w (n + m) cap e - (n + m))).size = grownCap w (n + m) cap e * i.size := by
      simp only [Array.size_append, List.size_toArray, size_zeroCells, hzl, ho, hul, ← Nat.add_mul]
      congr 1; omega
    rw [← harr]
    refine hR.new (Grew.drew _ _ _) rfl (vs := olds ++ us) (hor.append hur) (by simp) ?_
    intro j v hv
    refine ⟨?_, ?_⟩
    · rw [Array.getElem?_append_left (by have := (List.getElem?_eq_some_iff.1 hv).1; simpa using this)]
      simpa using hv
    · have := List.mem_of_getElem? hv
      rcases List.mem_append.1 this with h | h
      · exact ho1 _ h
      · exact hu1 _ h
  · simp only [Array.size_append, List.size_toArray, size_zeroCells, hzl, ho, hul, ← Nat.add_mul]
    congr 1; omega

theorem aApp_run {P : Program} {ρ F st a w} (hR : Rel ρ F st a w) {d t ty : Nat} {s x v : AV} {st' : St} {y1 y2 : Value} (h1 : VR ρ F w s y1) (h2 : VR ρ F w x y2) (h : aApp P st d t s x = some (v, st')) :
    ∃ u w' ρ', (Builtin.append_ #[t, t] ty #[y1, y2]).run P w = .ok u w' ∧ Rel ρ' F st' a w' ∧ VR ρ' F w' v u ∧ Fr ρ F w ρ' F w' := by
  unfold aApp at h
  split at h
  · cases h
  · rename_i e he
    have hu := tSlice_u he
    split at h
    · rename_i z by_ zs hz hb hzs
      obtain ⟨i, zv, hi, hsz, hby, hzv, hzc⟩ := info_of hz hb hzs
      simp only [Option.bind_eq_some_iff] at h
      obtain ⟨⟨m, ds⟩, hsrc, h⟩ := h
      obtain ⟨us, hs⟩ := src_rel hR h2 hsrc
      have hds0 : m = 0 → ds = [] := by
        intro hm
        have h3 := hs.len; rw [hm] at h3
        have h4 : us = [] := List.eq_nil_of_length_eq_zero (by simpa using h3)
        have h5 := hs.rel.len; rw [h4] at h5
        exact List.eq_nil_of_length_eq_zero (by simpa using h5.symm)
      have hL : 1000 ≤ lab d := by simp [lab]
      -- of nothing
      have fromNil : ∀ base, y1 = .slice base 0 0 → 0 < z → zs.length = z → m * by_ ≤ 140737488355328 → m ≤ 4611686018427387904 → some (AV.ref (lab d) 0 m z, st.new (lab d) ⟨e, false, ds⟩) = some (v, st') →
          ∃ u w' ρ', (Builtin.append_ #[t, t] ty #[y1, y2]).run P w = .ok u w' ∧ Rel ρ' F st' a w' ∧ VR ρ' F w' v u ∧ Fr ρ F w ρ' F w' := by
        intro base hy h0 hzl hb1 hb2 heq
        simp only [Option.some.injEq, Prod.mk.injEq] at heq
        obtain ⟨rfl, rfl⟩ := heq
        subst hy
        by_cases hm : m = 0
        · obtain ⟨⟨bx, cx, rfl, _⟩, _⟩ := hs
          have hd := hds0 hm
          subst hm; subst hd
          refine ⟨_, w, rdel (lab d) ρ, run_app0 hu hz base bx 0 0 cx (Nat.le_refl _), hR.blank _ _, ?_, Fr.drop _ _ _ _⟩
          simp only [VR]
          exact .inr ⟨trivial, base, rfl⟩
        · obtain ⟨c, w', hr, hc1, hc2, hR', arr, hg, hsz'⟩ := app_new (P := P) (ty := ty) (L := lab d) hR hu hi hsz hby hzv (by rw [← hzc] at hzl; simpa using hzl) h0 base (n := 0) (cap := 0) (olds := []) (as := []) (by simp)
            (by cases base with | none => exact .inl ⟨rfl, rfl, rfl⟩ | some b => exact .inr ⟨b, rfl, by simp⟩) (by simp [VRs]) (by simp) hs (by omega) (by omega) (by simpa using hb1) (by simpa using hb2)
          simp only [List.nil_append, Nat.zero_add] at hr hR' hc1
          refine ⟨_, w', _, hr, hR', ?_, by rw [← hsz']; exact Fr.new' hg hL _⟩
          simp only [VR]
          exact .inl ⟨w.heap.size, c * z, c, by simp [rset], rfl, hc1, by simp, hc2⟩
      split at h
      · split at h
        · rename_i hc
          simp only [VR] at h1
          obtain ⟨base, rfl⟩ := h1
          exact fromNil base rfl hc.1 hc.2.1 hc.2.2.1 hc.2.2.2 h
        · cases h
      · split at h
        · rename_i hc
          simp only [VR] at h1
          obtain ⟨rfl, rfl, hc⟩ := hc
          exact fromNil none h1 hc.1 hc.2.1 hc.2.2.1 hc.2.2.2 h
        · cases h
      · rename_i l off n z'
        simp only [Option.bind_eq_some_iff] at h
        obtain ⟨B, hB, h⟩ := h
        split at h
        · rename_i hc
          obtain ⟨rfl, rfl, hBe, hbx, hBl, h0, hzl, hb1, hb2⟩ := hc
          simp only [Option.some.injEq, Prod.mk.injEq] at h
          obtain ⟨rfl, rfl⟩ := h
          generalize hLL : (if l < 1000 then lab d else l) = L
          have hL' : 1000 ≤ L := by rw [← hLL]; split <;> omega
          have hzl' : zv.cells.size = z' := by rw [← hzc] at hzl; simpa using hzl
          simp only [VR] at h1
          rcases h1 with ⟨r, M, cap, hlr, rfl, hn, hM, hcm⟩ | ⟨rfl, base, rfl⟩
          · simp only [Nat.zero_add] at hM
            obtain ⟨c, hh, hcsz, vs, hv, hv', hle, hcs⟩ := hR.heap.cells hB hlr
            simp only [hbx, Bool.false_eq_true, if_false] at hv'
            have hvl : vs.length = n * z' := by rw [hv'.len, hBl]
            by_cases hm : m = 0
            · obtain ⟨⟨bx, cx, rfl, _⟩, _⟩ := hs
              have hd := hds0 hm
              subst hm; subst hd
              refine ⟨_, w, _, run_app0 hu hz _ bx n cap cx hn, by
                have h9 := hR.rename (L := L) hB hlr hbx
                have hBB : ({ e := e, boxy := false, cs := B.cs ++ [] } : Blk) = B := by cases B; simp_all
                rw [hBB]; exact h9, ?_, Fr.rename hlr hL'⟩
              simp only [VR]
              exact .inl ⟨r, M, cap, by simp [rset], rfl, hn, by simpa using hM, hcm⟩
            · by_cases hroom : n + m ≤ cap
              · obtain ⟨⟨bx, cx, rfl, hx⟩, hul, hur, hu1⟩ := hs
                obtain ⟨ax, rfl, hax⟩ := hx.resolve_left hm
                have hfit : n * i.size + us.length ≤ c.size := by
                  rw [hul, hcsz, hsz, ← Nat.add_mul]
                  exact Nat.le_trans (Nat.mul_le_mul_right _ hroom) hM
                have hfit' := hfit
                rw [hsz] at hfit'
                rw [hBe] at hh
                have hr := run_append_roomC (P := P) w t ty e i hu hi r n cap c hh ax m cx us (by rw [hul, hsz]) hax hu1 hroom hfit
                rw [hsz] at hr
                have htake : c.toList.take (n * z') = vs := by
                  apply List.ext_getElem?
                  intro j
                  rw [List.getElem?_take]
                  by_cases hj : j < n * z'
                  · rw [if_pos hj]
                    have hj' : j < vs.length := by omega
                    have := (hcs j vs[j] (by simp [hj'])).1
                    rw [Array.getElem?_toList, this, List.getElem?_eq_getElem hj']
                  · rw [if_neg hj, List.getElem?_eq_none (by omega)]
                rw [htake] at hr
                have hw := hR.write (B' := ⟨e, false, B.cs ++ ds⟩) hB hlr hBe.symm (c' := (vs ++ us ++ c.toList.drop (n * z' + us.length)).toArray) (by simp only [List.size_toArray, List.length_append, List.length_drop, Array.length_toList]; omega) (vs := vs ++ us) (by simpa using hv'.append hur) (by simp only [List.length_append]; omega) (by
                  intro j v hv
                  refine ⟨?_, ?_⟩
                  · rw [List.getElem?_toArray, List.getElem?_append_left (by have := (List.getElem?_eq_some_iff.1 hv).1; simpa using this)]
                    exact hv
                  · rcases List.mem_append.1 (List.mem_of_getElem? hv) with h | h
                    · obtain ⟨k, hk⟩ := List.mem_iff_getElem?.1 h
                      exact (hcs k v hk).2.1
                    · exact hu1 _ h)
                have hgi : ∀ (h : List (Nat × Blk)) (B : Blk), get? l (ins l B h) = some B := by
                  intro h B
                  induction h with
                  | nil => simp [ins, get?]
                  | cons p h ih =>
                    obtain ⟨j, y⟩ := p
                    simp only [ins]
                    split
                    · simp [get?]
                    · split
                      · simp [get?]
                      · rename_i hj _; simp [get?, hj, ih]
                have hw2 := hw.rename (L := L) (hgi _ _) hlr rfl
                have hdel : ∀ (h : List (Nat × Blk)) (B : Blk), mapH l (del l (ins l B h)) = mapH l (del l h) := by
                  intro h B
                  congr 1
                  induction h with
                  | nil => simp [ins, del]
                  | cons p h ih =>
                    obtain ⟨j, y⟩ := p
                    have dd : ∀ q : List (Nat × Blk), del l (del l q) = del l q := by
                      intro q
                      induction q with
                      | nil => rfl
                      | cons q0 q ih =>
                        obtain ⟨q1, q2⟩ := q0
                        simp only [del]
                        split
                        · exact ih
                        · rename_i hq; simp [del, hq, ih]
                    simp only [ins]
                    split
                    · rename_i hj; simp [del, hj, dd]
                    · split
                      · rename_i hj _; simp [del, hj, dd]
                      · rename_i hj _; simp [del, hj, ih]
                have hst : ((({ st with h := ins l ⟨e, false, B.cs ++ ds⟩ st.h } : St).drop l).new L ⟨e, false, B.cs ++ ds⟩) = ((st.drop l).new L ⟨e, false, B.cs ++ ds⟩) := by
                  simp only [St.new, St.drop, hdel]
                rw [hst] at hw2
                refine ⟨_, _, _, hr, hw2, ?_, (Fr.write hlr _).trans (Fr.rename hlr hL')⟩
                simp only [VR]
                exact .inl ⟨r, M, cap, by simp [rset], rfl, hroom, by simpa using hM, hcm⟩
              · obtain ⟨c', w', hr, hc1, hc2, hR', arr, hg, hsz'⟩ := app_new (P := P) (ty := ty) (L := L) (hR.drop l) hu hi hsz hby hzv hzl' h0 (some ⟨r, 0, none⟩) (n := n) (cap := cap) (olds := vs) (as := B.cs) hvl
                  (.inr ⟨_, rfl, fun j u hu => by rw [add_none, Nat.zero_add]; exact (hcs j u hu).2.2⟩) hv' (fun u hu => by obtain ⟨k, hk⟩ := List.mem_iff_getElem?.1 hu; exact (hcs k u hk).2.1) hs (by omega) (by omega) hb1 hb2
                refine ⟨_, w', _, hr, hR', ?_, (Fr.drop _ _ _ _).trans (by rw [← hsz']; exact Fr.new' hg hL' _)⟩
                simp only [VR]
                exact .inl ⟨w.heap.size, c' * z', c', by simp [rset], rfl, hc1, by simp, hc2⟩
          · have hB0 : B.cs = [] := List.eq_nil_of_length_eq_zero (by simpa using hBl)
            rw [hB0, List.nil_append]
            simp only [Nat.zero_add]
            by_cases hm : m = 0
            · obtain ⟨⟨bx, cx, rfl, _⟩, _⟩ := hs
              have hd := hds0 hm
              subst hm; subst hd
              refine ⟨_, w, _, run_app0 hu hz base bx 0 0 cx (Nat.le_refl _), (hR.drop l).blank L e, ?_, (Fr.drop _ _ _ _).trans (Fr.drop _ _ _ _)⟩
              simp only [VR]
              exact .inr ⟨trivial, base, rfl⟩
            · obtain ⟨c, w', hr, hc1, hc2, hR', arr, hg, hsz'⟩ := app_new (P := P) (ty := ty) (L := L) (hR.drop l) hu hi hsz hby hzv hzl' h0 base (n := 0) (cap := 0) (olds := []) (as := []) (by simp)
                (by cases base with | none => exact .inl ⟨rfl, rfl, rfl⟩ | some b => exact .inr ⟨b, rfl, by simp⟩) (by simp [VRs]) (by simp) hs (by omega) (by omega) (by simpa using hb1) (by simpa using hb2)
              simp only [List.nil_append, Nat.zero_add] at hr hR' hc1
              refine ⟨_, w', _, hr, hR', ?_, (Fr.drop _ _ _ _).trans (by rw [← hsz']; exact Fr.new' hg hL' _)⟩
              simp only [VR]
              exact .inl ⟨w.heap.size, c * z', c, by simp [rset], rfl, hc1, by simp, hc2⟩
        · cases h
      · cases h
    · cases h
end Go.Proofs.YtjeafkodcmbabaaDoor.E

namespace Go.Proofs.YtjeafkodcmbabaaDoor.E
set_option linter.unusedVariables false
set_option linter.unusedSimpArgs false

def aAlloc (P : Program) (st : St) (d : Tmp) (e : TypeId) : Option (AV × St) := (tZero P e).bind fun zs =>
  if zs.all Value.oneCell' then some (.ptr (lab d) 0, st.new (lab d) ⟨e, true, zs.map .val⟩) else none
def aBox (st : St) (d : Tmp) (e : TypeId) (x : AV) : Option (AV × St) :=
  if x.fits then some (.ptr (lab d) 0, st.new (lab d) ⟨e, true, kills (lab d) x.cells⟩) else none
def cyc (zs : List Value) : Nat → List Value
  | 0 => []
  | n + 1 => zs ++ cyc zs n
def cBuild (P : Program) (t : TypeId) (n : Nat) (parts : List (Nat × AV)) : Option (TypeId × Nat × List AV) :=
  match tSlice P t with
  | none => none
  | some e => match tSz P e, tZero P e with
    | some z, some zs => if n * z ≤ 16777216 ∧ zs.length = z ∧ 0 < z ∧ zs.all Value.oneCell' then (aFill (fun i => some (i * z, z)) ((cyc zs n).map .val) parts).bind fun cs =>
        if frees cs then some (e, z, cs) else none
      else none
    | _, _ => none
def aBuildSlice (P : Program) (st : St) (d : Tmp) (t : TypeId) (n : Nat) (parts : List (Nat × AV)) : Option (AV × St) :=
  (cBuild P t n parts).map fun p => (.ref (lab d) 0 n p.2.1, st.new (lab d) ⟨p.1, false, p.2.2⟩)
def cMake (P : Program) (t : TypeId) (l c : Int) : Option (TypeId × Nat × List AV) :=
  match tSlice P t with
  | none => none
  | some e => match tSz P e, tBytes P e, tZero P e with
    | some z, some by_, some zs => if zs.length = z ∧ 0 < z ∧ zs.all Value.oneCell' = true ∧ 0 ≤ l ∧ l ≤ c ∧ by_ * c ≤ 281474976710656 ∧ c ≤ 9223372036854775807 then
        some (e, z, match zs with | [v] => List.replicate l.toNat (.val v) | _ => (cyc zs l.toNat).map .val) else none
    | _, _, _ => none
def aMake (P : Program) (st : St) (d : Tmp) (t : TypeId) (l c : Int) : Option (AV × St) :=
  (cMake P t l c).map fun p => (.ref (lab d) 0 l.toNat p.2.1, st.new (lab d) ⟨p.1, false, p.2.2⟩)
def aStore (P : Program) (st : St) (t : TypeId) (x v : AV) : Option St := match tSz P t, x with
  | some z, .ptr l off => (get? l st.h).bind fun B => if v.fits = true ∧ v.cells.length = z ∧ 0 < z ∧ off + z ≤ B.cs.length ∧ (B.boxy = false → frees v.cells = true) then some { st with h := ins l { B with cs := splice off v.cells B.cs } st.h } else none
  | _, _ => none
def aCopy (P : Program) (st : St) (t : TypeId) (x s : AV) : Option (AV × St) := match (tSlice P t).bind (tSz P), x with
  | some z, .ref l off n z' => (srcCells st z s).bind fun (m, ds) => (get? l st.h).bind fun B => if z' = z ∧ off + n * z ≤ B.cs.length then
      some (.val (.int .i64 (min m n : Nat)), { st with h := ins l { B with cs := B.cs.take off ++ ds.take (min m n * z) ++ B.cs.drop (off + min m n * z) } st.h }) else none
  | _, _ => none

theorem vals_get {ρ F w} (vs : List Value) : VRs ρ F w (vs.map .val) vs := vals_rel vs

theorem aAlloc_run {P : Program} {ρ F st a w} (hR : Rel ρ F st a w) {d : Tmp} {e : TypeId} {v : AV} {st' : St} (h : aAlloc P st d e = some (v, st')) :
    ∃ u w' ρ', (Instr.alloc e true (.tuple #[])).run P w = .ok u w' ∧ Rel ρ' F st' a w' ∧ VR ρ' F w' v u ∧ Fr ρ F w ρ' F w' := by
  simp only [aAlloc, Option.bind_eq_some_iff] at h
  obtain ⟨zs, hz, h⟩ := h
  split at h
  · rename_i h1
    simp only [Option.some.injEq, Prod.mk.injEq] at h
    obtain ⟨rfl, rfl⟩ := h
    obtain ⟨zv, hr, rfl⟩ := run_tZero (w := w) hz
    refine ⟨.pointer (some ⟨w.heap.size, 0, none⟩), w.alloc (.cells zv.cells e), _, ?_, hR.new (L := lab d) (Grew.alloc _ _ _) rfl (vs := zv.cells.toList) (vals_get _) (by simp) ?_, ?_, Fr.new' (Grew.alloc _ _ _) (by simp [lab]) _⟩
    · simp [Instr.alloc, hr, newVar, newRow]
    · intro i u hu
      exact ⟨by simpa using hu, List.all_eq_true.1 h1 u (List.mem_of_getElem? hu)⟩
    · simp only [VR]; exact ⟨_, _, by simp [rset]; rfl, rfl⟩
  · cases h

theorem aBox_run {P : Program} {ρ F st a w} (hR : Rel ρ F st a w) {d : Tmp} {e : TypeId} {x v : AV} {y : Value} {st' : St} (hx : VR ρ F w x y) (h : aBox st d e x = some (v, st')) :
    ∃ u w' ρ', (Instr.box e y).run P w = .ok u w' ∧ Rel ρ' F st' a w' ∧ VR ρ' F w' v u ∧ Fr ρ F w ρ' F w' := by
  simp only [aBox] at h
  split at h
  · rename_i h1
    simp only [Option.some.injEq, Prod.mk.injEq] at h
    obtain ⟨rfl, rfl⟩ := h
    obtain ⟨hc, ho⟩ := fits_rel hx h1
    refine ⟨.pointer (some ⟨w.heap.size, 0, none⟩), w.alloc (.cells y.cells e), _, ?_, hR.new (L := lab d) (Grew.alloc _ _ _) rfl (vs := y.cells.toList) (kills_rel _ _ _ hc) (by simp) ?_, ?_, Fr.new' (Grew.alloc _ _ _) (by simp [lab]) _⟩
    · simp [Instr.box, newVar, newRow]
    · intro i u hu
      exact ⟨by simpa using hu, ho u (List.mem_of_getElem? hu)⟩
    · simp only [VR]; exact ⟨_, _, by simp [rset]; rfl, rfl⟩
  · cases h

theorem cyc_len (zs : List Value) : ∀ n, (cyc zs n).length = n * zs.length
  | 0 => by simp [cyc]
  | n + 1 => by simp [cyc, cyc_len zs n, Nat.succ_mul, Nat.add_comm]
theorem cyc_get (zs : List Value) (hz : 0 < zs.length) : ∀ (n i : Nat), i < n * zs.length → (cyc zs n)[i]? = zs[i % zs.length]?
  | 0, i, h => by simp at h
  | n + 1, i, h => by
    simp only [cyc]
    by_cases hi : i < zs.length
    · rw [List.getElem?_append_left hi, Nat.mod_eq_of_lt hi]
    · rw [List.getElem?_append_right (by omega), cyc_get zs hz n _ (by rw [Nat.succ_mul] at h; omega)]
      conv => rhs; rw [show i = i - zs.length + zs.length by omega, Nat.add_mod_right]
theorem cyc_one (zs : List Value) (h : zs.all Value.oneCell' = true) : ∀ n, ∀ u ∈ cyc zs n, u.oneCell' = true
  | 0, u, hu => by simp [cyc] at hu
  | n + 1, u, hu => by
    simp only [cyc, List.mem_append] at hu
    rcases hu with hu | hu
    · exact List.all_eq_true.1 h u hu
    · exact cyc_one zs h n u hu
theorem cyc_arr (z : Array Value) (hz : 0 < z.size) (n k : Nat) (hk : k = n * z.size) : ((Array.range k).map fun i => z[i % z.size]!).toList = cyc z.toList n := by
  subst hk
  apply List.ext_getElem?
  intro i
  by_cases hi : i < n * z.size
  · rw [cyc_get _ (by simpa using hz) _ _ (by simpa using hi)]
    have hm := Nat.mod_lt i hz
    simp [hi, hm]
  · rw [List.getElem?_eq_none (by simp; omega), List.getElem?_eq_none (by rw [cyc_len]; simp; omega)]

theorem fill_one {place : Nat → Option (Nat × Nat)} : ∀ {qs : List (Nat × Value)} {arr o : Array Value}, (∀ u ∈ arr.toList, u.oneCell' = true) → (∀ q ∈ qs, ∀ u ∈ q.2.cells.toList, u.oneCell' = true) → Instr.fill place arr qs = some o → (∀ u ∈ o.toList, u.oneCell' = true) ∧ o.size = arr.size
  | [], arr, o, ha, _, h => by simp [Instr.fill] at h; subst h; exact ⟨ha, rfl⟩
  | (i, x) :: qs, arr, o, ha, hq, h => by
    simp only [Instr.fill] at h
    split at h
    · cases h
    · rename_i off size hp
      split at h
      · cases h
      · rename_i hc
        simp only [Bool.or_eq_true, decide_eq_true_eq, ne_eq, not_or, Decidable.not_not, Nat.not_lt] at hc
        have hf : (x.cells.zipIdx.foldl (fun cs (p : Value × Nat) => cs.setIfInBounds (off + p.2) p.1) arr).toList = spliceV off x.cells.toList arr.toList := by
          have := fold_set x.cells.toList off 0 arr (by simp; omega)
          rw [← Array.foldl_toList, Array.toList_zipIdx]
          simpa using this
        have hs : (x.cells.zipIdx.foldl (fun cs (p : Value × Nat) => cs.setIfInBounds (off + p.2) p.1) arr).size = arr.size := by
          have := congrArg List.length hf
          rw [spliceV_len (by simp; omega)] at this
          simpa using this
        obtain ⟨h1, h2⟩ := fill_one (qs := qs) (arr := (x.cells.zipIdx.foldl (fun cs (p : Value × Nat) => cs.setIfInBounds (off + p.2) p.1) arr)) (o := o) (by
          intro u hu
          rw [hf] at hu
          simp only [spliceV, List.mem_append] at hu
          rcases hu with (hu | hu) | hu
          · exact ha u (List.mem_of_mem_take hu)
          · exact hq (i, x) (by simp) u hu
          · exact ha u (List.mem_of_mem_drop hu)) (fun q hq' => hq q (List.mem_cons_of_mem _ hq')) h
        exact ⟨h1, by rw [h2, hs]⟩

/-- a slice in a block of its own, just made -/
structure MadeS (F : Nat → Prop) (w : World) (w' : World) (e z n : Nat) (cs : List AV) (u : Value) : Prop where
  is : ∃ cap arr us, u = .slice (some ⟨w.heap.size, 0, none⟩) n cap ∧ Grew w w' arr e ∧ VRs (fun _ => none) F w cs us ∧ us.length ≤ arr.size ∧ (∀ (i : Nat) v, us[i]? = some v → arr[i]? = some v ∧ v.oneCell' = true) ∧ n ≤ cap ∧ cap * z ≤ arr.size ∧ cap ≤ maxLen

theorem cBuild_run {P : Program} {ρ F st a w} (hR : Rel ρ F st a w) {t n e z : Nat} {ps : Array (Nat × Operand)} {vs : List (Nat × AV)} {cs : List AV} (hp : st.parts ps.toList = some vs) (hf : (vs.all fun p => p.2.fits) = true) (h : cBuild P t n vs = some (e, z, cs)) :
    ∃ u w', (Instr.buildSlice t n (ps.map fun (i, x) => (i, a.eval x))).run P w = .ok u w' ∧ MadeS F w w' e z n cs u := by
  obtain ⟨hl, hpp⟩ := parts_rel hR hp hf
  unfold cBuild at h
  split at h
  · cases h
  · rename_i e' he
    have hu := tSlice_u he
    split at h
    · rename_i z' zs hz hzs
      split at h
      · rename_i hc
        obtain ⟨h24, hzl, h0, hone⟩ := hc
        simp only [Option.bind_eq_some_iff] at h
        obtain ⟨cs', hcs, h⟩ := h
        split at h
        · rename_i hfr
          simp only [Option.some.injEq, Prod.mk.injEq] at h
          obtain ⟨rfl, rfl, rfl⟩ := h
          obtain ⟨zv, hzv, rfl⟩ := run_tZero (w := w) hzs
          have hzl' : zv.cells.size = z' := by simpa using hzl
          have harr : ∃ arr : Array Value, ((Array.range (n * z')).map fun i => (if n * z' = 0 then (#[] : Array Value) else zv.cells)[i % (if n * z' = 0 then (#[] : Array Value) else zv.cells).size]!) = arr ∧ arr.toList = cyc zv.cells.toList n := by
            refine ⟨_, rfl, ?_⟩
            by_cases hn : n * z' = 0
            · have hn0 : n = 0 := by rcases Nat.mul_eq_zero.1 hn with h | h <;> omega
              subst hn0
              simp [cyc]
            · simp only [hn, if_false]
              exact cyc_arr _ (by omega) n _ (by rw [hzl'])
          obtain ⟨arr, harr, hal⟩ := harr
          obtain ⟨o, ho, hr⟩ := fill_rel (ρ := ρ) (F := F) (w := w) (qs := ps.toList.map fun (i, x) => (i, a.eval x)) (arr := arr) (by simp [hl]) (fun i p q h1 h2 => ⟨(hpp i p q h1 h2).1, (hpp i p q h1 h2).2.1, (hpp i p q h1 h2).2.2.1⟩) (by rw [hal]; exact vals_rel _) hcs
          have hones := fill_one (qs := ps.toList.map fun (i, x) => (i, a.eval x)) (by rw [hal]; exact cyc_one _ hone n) (by
            intro q hq
            obtain ⟨i, hi⟩ := List.mem_iff_getElem?.1 hq
            have hlt : i < vs.length := by
              have := (List.getElem?_eq_some_iff.1 hi).1
              simp at this hl; omega
            exact (hpp i vs[i] q (List.getElem?_eq_getElem hlt) hi).2.2.2) ho
          have hos : o.size = n * z' := by
            rw [hones.2, ← Array.length_toList, hal, cyc_len, Array.length_toList, hzl']
          refine ⟨.slice (some ⟨w.heap.size, 0, none⟩) n n, w.alloc (.cells o e'), ?_, ⟨n, o, o.toList, rfl, Grew.alloc _ _ _, frees_rel _ _ hfr hr, by simp, ?_, Nat.le_refl _, by rw [hos]; exact Nat.le_refl _, ?_⟩⟩
          · simp only [Instr.buildSlice, Sem.run_bind, run_und hu, Result.andThen, run_tSz hz]
            rw [if_neg (by omega)]
            rw [← harr] at ho
            by_cases hn : n * z' = 0
            · rw [if_pos hn]
              simp only [if_pos hn] at ho
              simp only [Sem.run_bind, Sem.run_pure, Result.andThen, Array.toList_map, ho, newRow]
              simp
            · rw [if_neg hn]
              simp only [if_neg hn] at ho
              simp only [Sem.run_bind, Sem.run_pure, hzv, Result.andThen, Array.toList_map, ho, newRow]
              simp
          · intro i u hu
            exact ⟨by simpa using hu, hones.1 u (List.mem_of_getElem? hu)⟩
          · have : n ≤ n * z' := Nat.le_mul_of_pos_right _ h0
            simp only [maxLen]; omega
        · cases h
      · cases h
    · cases h

theorem MadeS.rel {ρ F st a w w' e z n cs u} (hR : Rel ρ F st a w) (hm : MadeS F w w' e z n cs u) {L : Nat} (hL : 1000 ≤ L) :
    ∃ ρ', Rel ρ' F (st.new L ⟨e, false, cs⟩) a w' ∧ VR ρ' F w' (.ref L 0 n z) u ∧ Fr ρ F w ρ' F w' := by
  obtain ⟨cap, arr, us, rfl, hg, hv, hle, hc, h1, h2, h3⟩ := hm.is
  refine ⟨_, hR.new (L := L) hg rfl (vs := us) hv hle hc, ?_, Fr.new' hg hL _⟩
  simp only [VR]
  exact .inl ⟨w.heap.size, _, cap, by simp [rset]; rfl, rfl, h1, by simpa using h2, h3⟩

theorem aBuildSlice_run {P : Program} {ρ F st a w} (hR : Rel ρ F st a w) {d : Tmp} {t n : Nat} {ps : Array (Nat × Operand)} {vs : List (Nat × AV)} {v : AV} {st' : St} (hp : st.parts ps.toList = some vs) (hf : (vs.all fun p => p.2.fits) = true) (h : aBuildSlice P st d t n vs = some (v, st')) :
    ∃ u w' ρ', (Instr.buildSlice t n (ps.map fun (i, x) => (i, a.eval x))).run P w = .ok u w' ∧ Rel ρ' F st' a w' ∧ VR ρ' F w' v u ∧ Fr ρ F w ρ' F w' := by
  simp only [aBuildSlice, Option.map_eq_some_iff, Prod.mk.injEq] at h
  obtain ⟨⟨e, z, cs⟩, hc, rfl, rfl⟩ := h
  obtain ⟨u, w', hr, hm⟩ := cBuild_run hR hp hf hc
  obtain ⟨ρ', h1, h2, h3⟩ := hm.rel hR (L := lab d) (by simp [lab])
  exact ⟨u, w', ρ', hr, h1, h2, h3⟩

theorem cMake_run {P : Program} {t e z : Nat} {l c : Int} {kl kc : IntKind} {cs : List AV} (F : Nat → Prop) (w : World) (h : cMake P t l c = some (e, z, cs)) :
    ∃ u w', (Instr.makeSlice t (.int kl l) (.int kc c)).run P w = .ok u w' ∧ MadeS F w w' e z l.toNat cs u := by
  unfold cMake at h
  split at h
  · cases h
  · rename_i e' he
    have hu := tSlice_u he
    split at h
    · rename_i z' by_ zs hz hb hzs
      split at h
      · rename_i hc
        obtain ⟨hzl, h0, hone, hl0, hlc, hb1, hb2⟩ := hc
        simp only [Option.some.injEq, Prod.mk.injEq] at h
        obtain ⟨rfl, rfl, rfl⟩ := h
        obtain ⟨i, zv, hi, hsz, hby, hzv, hzc⟩ := info_of hz hb hzs
        have hr := run_make (P := P) w t e' i zv hu hi hzv kl kc l c hl0 hlc (by rw [hby]; exact hb1) hb2
        have hzl' : zv.cells.size = z' := by rw [← hzc] at hzl; simpa using hzl
        have hcontent : (match zs with | [v] => List.replicate l.toNat (AV.val v) | _ => (cyc zs l.toNat).map .val) = (cyc zs l.toNat).map .val := by
          split
          · rename_i u
            have : ∀ n, List.replicate n (AV.val u) = (cyc [u] n).map .val := by
              intro n; induction n with
              | zero => simp [cyc]
              | succ n ih => simp [cyc, List.replicate_succ, ih]
            exact this _
          · rfl
        have harr : (madeCells zv.cells (c.toNat * i.size)).toList = cyc zs c.toNat := by
          rw [← hzc, ← cyc_arr zv.cells (by omega) c.toNat _ rfl]
          simp [madeCells, hsz, hzl']
        rw [hcontent]
        have hpre : ∀ (j : Nat) (u : Value), (cyc zs l.toNat)[j]? = some u → (cyc zs c.toNat)[j]? = some u := by
          intro j u hj
          have hj1 : j < l.toNat * zs.length := by have := (List.getElem?_eq_some_iff.1 hj).1; rwa [cyc_len] at this
          rw [cyc_get _ (by omega) _ _ hj1] at hj
          rw [cyc_get _ (by omega) _ _ (Nat.lt_of_lt_of_le hj1 (Nat.mul_le_mul_right _ (by omega)))]
          exact hj
        have hsize : (madeCells zv.cells (c.toNat * i.size)).size = c.toNat * z' := by rw [size_madeCells, hsz]
        refine ⟨_, _, hr, ⟨c.toNat, _, cyc zs l.toNat, rfl, Grew.alloc _ _ _, vals_get _, ?_, ?_, by omega, by rw [hsize]; exact Nat.le_refl _, by simp only [maxLen]; omega⟩⟩
        · rw [cyc_len, hsize, hzl]; exact Nat.mul_le_mul_right _ (by omega)
        · intro j u hu
          refine ⟨?_, cyc_one zs hone _ u (List.mem_of_getElem? hu)⟩
          rw [← Array.getElem?_toList, harr]
          exact hpre j u hu
      · cases h
    · cases h

theorem aMake_run {P : Program} {ρ F st a w} (hR : Rel ρ F st a w) {d : Tmp} {t : Nat} {l c : Int} {kl kc : IntKind} {v : AV} {st' : St} (h : aMake P st d t l c = some (v, st')) :
    ∃ u w' ρ', (Instr.makeSlice t (.int kl l) (.int kc c)).run P w = .ok u w' ∧ Rel ρ' F st' a w' ∧ VR ρ' F w' v u ∧ Fr ρ F w ρ' F w' := by
  simp only [aMake, Option.map_eq_some_iff, Prod.mk.injEq] at h
  obtain ⟨⟨e, z, cs⟩, hc, rfl, rfl⟩ := h
  obtain ⟨u, w', hr, hm⟩ := cMake_run (kl := kl) (kc := kc) F w hc
  obtain ⟨ρ', h1, h2, h3⟩ := hm.rel hR (L := lab d) (by simp [lab])
  exact ⟨u, w', ρ', hr, h1, h2, h3⟩

theorem pre_split {xs cs : List Value} (hpre : ∀ (j : Nat) v, xs[j]? = some v → cs[j]? = some v) : ∃ rest, cs = xs ++ rest := by
  refine ⟨cs.drop xs.length, ?_⟩
  apply List.ext_getElem?
  intro j
  by_cases hj : j < xs.length
  · rw [List.getElem?_append_left hj, List.getElem?_eq_getElem hj]
    exact hpre j _ (List.getElem?_eq_getElem hj)
  · rw [List.getElem?_append_right (by omega), List.getElem?_drop]
    congr 1; omega

theorem spliceV_app {off : Nat} {us xs rest : List Value} (h : off + us.length ≤ xs.length) : spliceV off us (xs ++ rest) = spliceV off us xs ++ rest := by
  simp only [spliceV, List.take_append_of_le_length (show off ≤ xs.length by omega), List.drop_append_of_le_length h, List.append_assoc]

theorem spliceV_mem {off : Nat} {us xs : List Value} {v : Value} (h : v ∈ spliceV off us xs) : v ∈ us ∨ v ∈ xs := by
  simp only [spliceV, List.mem_append] at h
  rcases h with (h | h) | h
  · exact .inr (List.mem_of_mem_take h)
  · exact .inl h
  · exact .inr (List.mem_of_mem_drop h)

/-- cells of an own block are written -/
theorem Rel.splice {P : Program} {ρ F st a w} (hR : Rel ρ F st a w) {l r m off : Nat} {B : Blk} {cs : List AV} (hB : get? l st.h = some B) (hlr : ρ l = some (r, m)) {us : List Value} (hone : ∀ u ∈ us, u.oneCell' = true) (hin : off + us.length ≤ B.cs.length)
    (hcs : ∀ vs, VRs (if B.boxy then ρ else fun _ => none) F w B.cs vs → VRs (if B.boxy then ρ else fun _ => none) F w cs (spliceV off us vs)) :
    ∃ w', (storeCells ⟨r, off, none⟩ us).run P w = .ok () w' ∧ Rel ρ F { st with h := ins l { B with cs := cs } st.h } a w' ∧ Fr ρ F w ρ F w' := by
  obtain ⟨c, hh, hsz, vs, hvs, hvs', hle, hget⟩ := hR.heap.cells hB hlr
  have hvl := hvs.len
  have hst := run_storeCells_C P r off B.e us 0 c w hh (by omega) hone
  refine ⟨_, hst, ?_, Fr.write hlr _⟩
  simp only [Nat.add_zero]
  obtain ⟨rest, hrest⟩ := pre_split (xs := vs) (cs := c.toList) (fun j v hj => by rw [Array.getElem?_toList]; exact (hget j v hj).1)
  have hcl : vs.length + rest.length = m := by rw [← hsz, ← Array.length_toList, hrest, List.length_append]
  have hnew : c.toList.take off ++ us ++ c.toList.drop (off + us.length) = spliceV off us vs ++ rest := by
    rw [← spliceV_app (by omega), ← hrest]; rfl
  rw [hnew]
  have hsl : (spliceV off us vs).length = vs.length := spliceV_len (by omega)
  refine hR.write (B' := { B with cs := cs }) hB hlr rfl (by simp only [List.size_toArray, List.length_append]; omega) (vs := spliceV off us vs) (hcs vs hvs') (by omega) ?_
  intro i q hq
  refine ⟨?_, ?_⟩
  · rw [List.getElem?_toArray, List.getElem?_append_left (List.getElem?_eq_some_iff.1 hq).1]; exact hq
  · rcases spliceV_mem (List.mem_of_getElem? hq) with h | h
    · exact hone _ h
    · obtain ⟨k, hk⟩ := List.mem_iff_getElem?.1 h; exact (hget k _ hk).2.1

theorem aStore_run {P : Program} {ρ F st a w} (hR : Rel ρ F st a w) {t : Nat} {x v : AV} {y u : Value} {st' : St} (hx : VR ρ F w x y) (hv : VR ρ F w v u) (h : aStore P st t x v = some st') :
    ∃ w', (Instr.storeAt t y u).run P w = .ok () w' ∧ Rel ρ F st' a w' ∧ Fr ρ F w ρ F w' := by
  unfold aStore at h
  split at h
  · rename_i z l off hz
    simp only [Option.bind_eq_some_iff] at h
    obtain ⟨B, hB, h⟩ := h
    split at h
    · rename_i hc
      obtain ⟨hfit, hlen, h0, hin, hfr⟩ := hc
      cases h
      simp only [VR] at hx
      obtain ⟨r, m, hlr, rfl⟩ := hx
      obtain ⟨hcr, hone⟩ := fits_rel hv hfit
      have hul : u.cells.toList.length = z := by rw [hcr.len, hlen]
      have hne : v.cells ≠ [] := by intro e; rw [e] at hlen; simp at hlen; omega
      obtain ⟨w', hr, hR', hF⟩ := hR.splice (P := P) (off := off) (cs := splice off v.cells B.cs) hB hlr hone (by omega) (by
        intro vs hvs
        cases hb : B.boxy
        · simp only [hb, Bool.false_eq_true, if_false] at hvs ⊢
          exact splice_rel (frees_rel _ _ (hfr hb) hcr) hvs (by omega) hne
        · simp only [hb, if_true] at hvs ⊢
          exact splice_rel hcr hvs (by omega) hne)
      refine ⟨w', ?_, hR', hF⟩
      simp only [Instr.storeAt, Instr.sureAddr, Sem.run_bind, Sem.run_pure, Result.andThen, storeVar, run_tSz hz]
      rw [if_neg (by simp at hul; omega)]
      exact hr
    · cases h
  · cases h

theorem aCopy_run {P : Program} {ρ F st a w} (hR : Rel ρ F st a w) {t tx ty : Nat} {x s v : AV} {y u : Value} {st' : St} (hx : VR ρ F w x y) (hs : VR ρ F w s u) (h : aCopy P st t x s = some (v, st')) :
    ∃ q w' ρ', (Builtin.copy_ #[t, tx] ty #[y, u]).run P w = .ok q w' ∧ Rel ρ' F st' a w' ∧ VR ρ' F w' v q ∧ Fr ρ F w ρ' F w' := by
  unfold aCopy at h
  split at h
  · rename_i z l off n z' hz
    simp only [Option.bind_eq_some_iff] at hz h
    obtain ⟨e, he, hz⟩ := hz
    obtain ⟨⟨m, ds⟩, hsrc, B, hB, h⟩ := h
    have hu := tSlice_u he
    split at h
    · rename_i hc
      obtain ⟨rfl, hin⟩ := hc
      simp only [Option.some.injEq, Prod.mk.injEq] at h
      obtain ⟨rfl, rfl⟩ := h
      obtain ⟨us, hs'⟩ := src_rel hR hs hsrc
      obtain ⟨⟨bx, cx, rfl, hxs⟩, hul, hur, hu1⟩ := hs'
      have hk : min m n * z' ≤ m * z' := Nat.mul_le_mul_right _ (Nat.min_le_left _ _)
      have hk2 : min m n * z' ≤ n * z' := Nat.mul_le_mul_right _ (Nat.min_le_right _ _)
      have hlt : (us.take (min m n * z')).length = min m n * z' := by rw [List.length_take]; omega
      have hds : ds.length = m * z' := by rw [← hur.len, hul]
      have hfirst : (Builtin.firstCells z' (min m n) (.slice bx m cx)).run P w = .ok (us.take (min m n * z')).toArray w := by
        rcases hxs with rfl | ⟨ad, rfl, hax⟩
        · have : us = [] := List.eq_nil_of_length_eq_zero (by simpa using hul)
          subst this
          cases bx <;> simp [Builtin.firstCells, loadCells, loadCellsFrom]
        · have := run_firstCells_some (P := P) w z' (min m n) ad m cx (us.take (min m n * z')) hlt (fun j v hj => by
            rw [List.getElem?_take] at hj
            split at hj
            · exact hax j v hj
            · cases hj)
          exact this
      simp only [VR] at hx
      rcases hx with ⟨r, M, cap, hlr, rfl, hn, hM, hcm⟩ | ⟨rfl, base, rfl⟩
      · obtain ⟨w', hr, hR', hF⟩ := hR.splice (P := P) (off := off) (us := us.take (min m n * z')) (cs := B.cs.take off ++ ds.take (min m n * z') ++ B.cs.drop (off + min m n * z')) hB hlr (fun u hu => hu1 u (List.mem_of_mem_take hu)) (by rw [hlt]; omega) (by
          intro vs hvs
          have hx0 : VRs (if B.boxy then ρ else fun _ => none) F w (ds.take (min m n * z')) (us.take (min m n * z')) := by
            split
            · exact VRs.up (hur.take _)
            · exact hur.take _
          unfold spliceV
          rw [hlt]
          exact ((hvs.take off).append hx0).append (hvs.drop _))
        refine ⟨.int .i64 ((min m n : Nat) : Int), w', ρ, ?_, hR', rfl, hF⟩
        simp only [Builtin.copy_, List.getElem?_toArray, List.getElem?_cons_zero, List.getElem?_cons_succ, Sem.run_bind, run_und hu, Result.andThen, Builtin.lenOf, Sem.run_pure, run_tSz hz]
        have e1 : Nat.min m n = min m n := rfl
        simp only [e1, hfirst, hr, goInt]
      · have hm0 : min m 0 = 0 := by omega
        refine ⟨.int .i64 0, w, ρ, ?_, ?_, by simp [VR], Fr.refl _ _ _⟩
        · have e1 : Nat.min m 0 = 0 := by simp [Nat.min_def]
          simp only [Builtin.copy_, List.getElem?_toArray, List.getElem?_cons_zero, List.getElem?_cons_succ, Sem.run_bind, run_und hu, Result.andThen, Builtin.lenOf, Sem.run_pure, run_tSz hz, e1]
          rw [hm0] at hfirst
          simp only [hfirst, Nat.zero_mul, List.take_zero]
          cases base <;> simp [storeCells, goInt]
        · simp only [hm0, Nat.zero_mul, List.take_zero, List.append_nil, Nat.add_zero, List.take_append_drop]
          have hh : HRel ρ F (ins l B st.h) w := by
            refine ⟨fun k C hC => ?_, hR.heap.inj, hR.heap.apart, hR.heap.lt, hR.heap.flt, hR.heap.glb⟩
            rcases mem_ins hC with e1 | ⟨hC, _⟩
            · cases e1; exact hR.heap.blk _ _ (get?_mem hB)
            · exact hR.heap.blk _ _ hC
          exact ⟨hh, hR.size, hR.defers, hR.tmps⟩
    · cases h
  · cases h
end Go.Proofs.YtjeafkodcmbabaaDoor.E

namespace Go.Proofs.YtjeafkodcmbabaaDoor.E
set_option linter.unusedVariables false
set_option linter.unusedSimpArgs false
/-! ## One operation that calls no code -/
def St.evalO (st : St) : Option Operand → Option (Option AV)
  | none => some none
  | some x => (st.eval x).map some

def aNil : AV → Option AV
  | .ptr l off => some (.ptr l off)
  | .fptr cs => some (.fptr cs)
  | .clo f cs => some (.clo f cs)
  | _ => none

def aCallB (P : Program) (st : St) (b : Builtin) (ts : List TypeId) (args : List Operand) : Option AV :=
  match b, ts, args with
  | .len, [t], [x] => (st.eval x).bind fun x => aLen P t x
  | .min, _, [x, y] => (st.eval x).bind fun x => (st.eval y).bind fun y => aMinMax false x y
  | .max, _, [x, y] => (st.eval x).bind fun x => (st.eval y).bind fun y => aMinMax true x y
  | _, _, _ => none

/-- a row of bytes, told as a string -/
def nums : List AV → Option (List Int)
  | [] => some []
  | .val (.int .u8 n) :: r => (nums r).map (n :: ·)
  | _ => none
def by8 (L : List Int) : List AV := L.map fun n => .val (.int .u8 n)
theorem nums_by8 : ∀ L : List Int, nums (by8 L) = some L
  | [] => rfl
  | n :: L => by show (nums (by8 L)).map (n :: ·) = _; rw [nums_by8 L]; rfl
theorem nums_rel {ρ F w} : ∀ {cs : List AV} {vs : List Value} {xs : List Int}, VRs ρ F w cs vs → nums cs = some xs → vs = xs.map (Value.int .u8)
  | [], vs, xs, h, k => by simp only [VRs] at h; simp only [nums, Option.some.injEq] at k; subst h k; rfl
  | c :: cs, vs, xs, h, k => by
    simp only [VRs] at h
    obtain ⟨v, r, rfl, hv, hr⟩ := h
    unfold nums at k
    split at k
    · cases ‹_ = []›
    · rename_i n r' e
      cases e
      simp only [Option.map_eq_some_iff] at k
      obtain ⟨ys, hy, rfl⟩ := k
      simp only [VR] at hv
      rw [nums_rel hr hy, hv]; rfl
    · cases k
def aStr (P : Program) (s d : TypeId) (h : List (Nat × Blk)) (x : AV) : Option AV := match tSlice P s, tCls P d with
  | some e, .string => match tInt P e with
    | some .u8 => match x with
      | .sl n cs => (nums cs).bind fun xs => if xs.length = n then some (.val (.string (strOfNums xs))) else none
      | .ref l off n z => (get? l h).bind fun B => (nums (B.cs.drop off)).bind fun xs => if xs.length = n then some (.val (.string (strOfNums xs))) else none
      | .emp => some (.val (.string (strOfNums [])))
      | .val (.slice none n c) => some (.val (.string (strOfNums [])))
      | _ => none
    | _ => none
  | _, _ => none
theorem tInt_u {P : Program} {t : TypeId} {k : IntKind} (h : tInt P t = some k) : P.underlying t = some (.int k) := by
  unfold tInt at h; split at h
  · cases h; assumption
  · cases h
theorem tCls_s {P : Program} {t : TypeId} (h : tCls P t = .string) : P.underlying t = some .string := by
  unfold tCls at h; split at h <;> simp_all
theorem conv_nil {P : Program} {w : World} {s d e : TypeId} (hs : P.underlying s = some (.slice e)) (he : P.underlying e = some (.int .u8)) (hd : P.underlying d = some .string) (a : Option Addr) (c : Nat) :
    (convert s d (.slice a 0 c)).run P w = .ok (.string (strOfNums [])) w := by
  cases a with
  | none => exact run_convert_bytes_nil w s e hs he 0 c d hd
  | some a =>
    rw [run_convert_bytes_string w s d e _ 0 c hs he hd, run_bytesToString w a 0 c [] (by simpa using run_loadCells_list (P := P) w a [] (fun j v hj => by simp at hj))]
    rfl
theorem conv_row {P : Program} {w : World} {s d e : TypeId} (hs : P.underlying s = some (.slice e)) (he : P.underlying e = some (.int .u8)) (hd : P.underlying d = some .string) (b off c : Nat) (xs : List Int)
    (hc : ∀ (i : Nat) v, (xs.map (Value.int .u8))[i]? = some v → w.cell? ⟨b, off + i, none⟩ = some v) :
    (convert s d (.slice (some ⟨b, off, none⟩) xs.length c)).run P w = .ok (.string (strOfNums xs)) w :=
  run_convert_bytes_arg w s e hs he b off xs.length c xs rfl (fun i hi => hc i _ (by simp [List.getD, List.getElem?_eq_getElem hi])) d hd
theorem aStr_run {P : Program} {s d : TypeId} {ρ F st a w} (hR : Rel ρ F st a w) {x v : AV} {y : Value} (hx : VR ρ F w x y) (h : aStr P s d st.h x = some v) : ∃ u, (convert s d y).run P w = .ok u w ∧ VR ρ F w v u := by
  unfold aStr at h
  split at h
  · rename_i e hs hd
    have hs := tSlice_u hs
    have hd := tCls_s hd
    split at h
    · rename_i he
      have he := tInt_u he
      split at h
      · rename_i n cs
        simp only [Option.bind_eq_some_iff] at h
        obtain ⟨xs, hn, h⟩ := h
        split at h
        · rename_i hl
          cases h
          simp only [VR] at hx
          obtain ⟨base, cap, vs, rfl, _, _, hv, hf, _, _⟩ := hx
          have hvs := nums_rel hv hn
          subst hl
          refine ⟨_, ?_, rfl⟩
          rcases hf with h0 | ⟨b, off, rfl, _, hc⟩
          · rw [hvs] at h0
            obtain rfl : xs = [] := by simpa using h0
            exact conv_nil hs he hd _ _
          · subst hvs
            exact conv_row hs he hd b off cap xs fun i v hi => (hc i v hi).1
        · cases h
      · rename_i l off n z
        simp only [Option.bind_eq_some_iff] at h
        obtain ⟨B, hB, xs, hn, h⟩ := h
        split at h
        · rename_i hl
          cases h
          simp only [VR] at hx
          subst hl
          rcases hx with ⟨r, m, cap, hl, rfl, _, _, _⟩ | ⟨h0, base, rfl⟩
          · obtain ⟨c, _, _, vs, hv, _, _, hc⟩ := hR.heap.cells hB hl
            have hvs := nums_rel (hv.drop off) hn
            refine ⟨_, conv_row hs he hd r off cap xs fun i v hi => ?_, rfl⟩
            rw [← hvs, List.getElem?_drop] at hi
            exact (hc (off + i) v hi).2.2
          · obtain rfl : xs = [] := List.eq_nil_of_length_eq_zero h0
            exact ⟨_, conv_nil hs he hd _ _, rfl⟩
        · cases h
      · cases h
        simp only [VR] at hx
        obtain ⟨base, rfl⟩ := hx
        exact ⟨_, conv_nil hs he hd _ _, rfl⟩
      · cases h
        simp only [VR] at hx
        subst hx
        rename_i n c
        exact ⟨_, run_convert_bytes_nil w s e hs he n c d hd, rfl⟩
      · cases h
    · cases h
  · cases h
def pureOp (P : Program) (st : St) : Op → Option AV
  | .move x => st.eval x
  | .assign x => st.eval x
  | .pick c a b => (st.eval c).bind fun | .val (.bool c) => (if c = true then st.eval a else st.eval b) | _ => none
  | .build t ps => (st.parts ps.toList).bind fun vs => if vs.all fun p => p.2.fits then aBuild P t vs else none
  | .load t x => (st.eval x).bind fun x => ld P t st.h x
  | .nilCheck x => (st.eval x).bind aNil
  | .binOp op t x y _ => (st.eval x).bind fun u => (st.eval y).bind fun v => aBinAll P op t x y u v
  | .unOp op _ x => (st.eval x).bind fun u => aUn op u
  | .convert s d x => (st.eval x).bind fun u => match aConv P s d u with | some v => some v | none => aStr P s d st.h u
  | .makeInterface t x => (st.eval x).bind fun u => aIface P t u
  | .slice t x lo hi mx => (st.eval x).bind fun u => (st.evalO lo).bind fun lo => (st.evalO hi).bind fun hi => (st.evalO mx).bind fun mx => aSlice P t st.h u lo hi mx
  | .fieldAddr s x f => (st.eval x).bind fun u => aFieldAddr P s f u
  | .field s x f => (st.eval x).bind fun u => aField P s f u
  | .indexAddr t x ix => (st.eval x).bind fun u => (st.eval ix).bind fun i => aIndexAddr P t u i
  | .index t x ix => (st.eval x).bind fun u => (st.eval ix).bind fun i => aIndex P t u i
  | .extract x i => (st.eval x).bind fun | .tup cs => cs[i]? | _ => none
  | .call { callee := .builtin b, args, argTypes } => aCallB P st b argTypes.toList args.toList
  | _ => none

def memOp (P : Program) (st : St) (d : Option Tmp) : Op → Option (AV × St)
  | .alloc e => d.bind fun d => aAlloc P st d e
  | .box e x => d.bind fun d => (st.eval x).bind fun u => aBox st d e u
  | .buildSlice t n ps => d.bind fun d => (st.parts ps.toList).bind fun vs => if vs.all fun p => p.2.fits then aBuildSlice P st d t n vs else none
  | .makeSlice t l c => d.bind fun d => (st.eval l).bind fun l => (st.eval c).bind fun c => (intOf? l).bind fun l => (intOf? c).bind fun c => aMake P st d t l c
  | .store t x v => (st.eval x).bind fun x => (st.eval v).bind fun v => (aStore P st t x v).map fun st => (.dead, st)
  | .call { callee := .builtin .append, args, argTypes } => d.bind fun d => match argTypes.toList, args.toList with
    | [t, t'], [s, x] => if t = t' then (st.eval s).bind fun s => (st.eval x).bind fun x => aApp P st d t s x else none
    | _, _ => none
  | .call { callee := .builtin .copy, args, argTypes } => match argTypes.toList, args.toList with
    | [t, _], [s, x] => (st.eval s).bind fun s => (st.eval x).bind fun x => aCopy P st t s x
    | _, _ => none
  | op => (pureOp P st op).map fun v => (v, st)

theorem evalO_rel {ρ F st a w} (hR : Rel ρ F st a w) {x : Option Operand} {v : Option AV} (h : st.evalO x = some v) : OR ρ F w v (x.map a.eval) := by
  cases x with
  | none => simp [St.evalO] at h; subst h; exact .inl ⟨rfl, rfl⟩
  | some x =>
    simp only [St.evalO, Option.map_eq_some_iff] at h
    obtain ⟨c, hc, rfl⟩ := h
    exact .inr ⟨c, _, rfl, rfl, hR.get hc⟩


theorem run_mkIface {P : Program} {t : TypeId} {w : World} (ht : tIface P t = some false) (v : Value) : (Instr.makeInterface t v).run P w = .ok (.iface t v) w := by
  unfold tIface at ht
  simp only [Option.map_eq_some_iff] at ht
  obtain ⟨d, hd, hne⟩ := ht
  simp only [Instr.makeInterface, Sem.run_bind, run_und hd, Result.andThen]
  cases d <;> first | rfl | (simp at hne)

theorem arr1 {α : Type} {a : Array α} {x : α} (h : a.toList = [x]) : a = #[x] := by rw [← Array.toArray_toList (xs := a), h]
theorem arr2 {α : Type} {a : Array α} {x y : α} (h : a.toList = [x, y]) : a = #[x, y] := by rw [← Array.toArray_toList (xs := a), h]

theorem aCallB_run {P : Program} {ρ F st a w} (hR : Rel ρ F st a w) {b : Builtin} {ts : Array TypeId} {args : Array Operand} {ty : TypeId} {v : AV} (h : aCallB P st b ts.toList args.toList = some v) :
    ∃ u, (do let d ← resolve a.eval { callee := .builtin b, args := args, argTypes := ts } ty; invoke d.target d.args).run P w = .ok (.value u) w ∧ VR ρ F w v u := by
  unfold aCallB at h
  split at h
  · rename_i t x hts hargs
    simp only [Option.bind_eq_some_iff] at h
    obtain ⟨c, hc, h⟩ := h
    obtain ⟨u, hu, hr⟩ := aLen_run (ty := ty) (hR.get hc) h
    refine ⟨u, ?_, hr⟩
    rw [arr1 hts, arr1 hargs]
    simp [resolve, invoke, builtin, hu]
  · rename_i x y hargs
    simp only [Option.bind_eq_some_iff] at h
    obtain ⟨c, hc, e, he, h⟩ := h
    unfold aMinMax at h
    split at h
    · cases h
      have h1 := hR.get hc; have h2 := hR.get he
      simp only [VR] at h1 h2
      refine ⟨_, ?_, rfl⟩
      rw [arr2 hargs]
      simp [resolve, invoke, builtin, Builtin.min_, Builtin.min2, h1, h2]
    · cases h
  · rename_i x y hargs
    simp only [Option.bind_eq_some_iff] at h
    obtain ⟨c, hc, e, he, h⟩ := h
    unfold aMinMax at h
    split at h
    · cases h
      have h1 := hR.get hc; have h2 := hR.get he
      simp only [VR] at h1 h2
      refine ⟨_, ?_, rfl⟩
      rw [arr2 hargs]
      simp [resolve, invoke, builtin, Builtin.max_, Builtin.max2, h1, h2]
    · cases h
  · cases h

theorem pureOp_run {P : Program} {ρ F st a w} (hR : Rel ρ F st a w) {o : Oper} {v : AV} (h : pureOp P st o.op = some v) : ∃ u, (execOp a.eval o).run P w = .ok (.value u) w ∧ VR ρ F w v u := by
  obtain ⟨dst, op, ty, pos, after, guard⟩ := o
  simp only at h
  unfold pureOp at h
  split at h
  · exact ⟨_, rfl, hR.get h⟩
  · exact ⟨_, rfl, hR.get h⟩
  · rename_i c x y
    simp only [Option.bind_eq_some_iff] at h
    obtain ⟨cv, hc, h⟩ := h
    split at h
    · have hcr := hR.get hc
      simp only [VR] at hcr
      split at h
      · rename_i hb; subst hb; exact ⟨_, by simp [execOp, asBool, hcr], hR.get h⟩
      · rename_i b hb
        have hb' : b = false := by simpa using hb
        subst hb'; exact ⟨_, by simp [execOp, asBool, hcr], hR.get h⟩
    · cases h
  · rename_i t ps
    simp only [Option.bind_eq_some_iff] at h
    obtain ⟨vs, hvs, h⟩ := h
    split at h
    · rename_i hf
      obtain ⟨u, hu, hr⟩ := aBuild_run hR hvs hf h
      exact ⟨u, by simp only [execOp, Sem.run_bind, hu, Result.andThen, Sem.run_pure], hr⟩
    · cases h
  · simp only [Option.bind_eq_some_iff] at h
    obtain ⟨x, hx, h⟩ := h
    obtain ⟨u, hu, hr⟩ := ld_run hR.heap (hR.get hx) h
    exact ⟨u, by simp only [execOp, Sem.run_bind, hu, Result.andThen, Sem.run_pure], hr⟩
  · simp only [Option.bind_eq_some_iff] at h
    obtain ⟨x, hx, h⟩ := h
    have hxr := hR.get hx
    unfold aNil at h
    split at h
    · cases h
      have h2 := hxr
      simp only [VR] at hxr
      obtain ⟨r, m, _, hv⟩ := hxr
      exact ⟨_, by simp only [execOp, hv]; rfl, hv ▸ h2⟩
    · cases h
      have h2 := hxr
      simp only [VR] at hxr
      obtain ⟨r, m, hv, _⟩ := hxr
      exact ⟨_, by simp only [execOp, hv]; rfl, hv ▸ h2⟩
    · cases h
      have h2 := hxr
      simp only [VR] at hxr
      obtain ⟨vs, hv, _⟩ := hxr
      exact ⟨_, by simp only [execOp, hv]; rfl, hv ▸ h2⟩
    · cases h
  · simp only [Option.bind_eq_some_iff] at h
    obtain ⟨x, hx, y, hy, h⟩ := h
    obtain ⟨u, hu, hr⟩ := aBinAll_run (hR.get hx) (hR.get hy) h
    refine ⟨u, ?_, hr⟩
    simp only [Sem.run_bind, Result.andThen] at hu
    simp only [execOp, Sem.run_bind, Result.andThen, Sem.run_pure]
    rw [hu]
  · simp only [Option.bind_eq_some_iff] at h
    obtain ⟨x, hx, h⟩ := h
    have hxr := hR.get hx
    unfold aUn at h
    split at h <;> first | (cases h; done) | (cases h; simp only [VR] at hxr; exact ⟨_, by simp [execOp, hxr, Op.unary, Op.intArith, Op.intBits], rfl⟩)
  · simp only [Option.bind_eq_some_iff] at h
    obtain ⟨x, hx, h⟩ := h
    have hxr := hR.get hx
    split at h
    rotate_left
    · obtain ⟨u, hu, hv⟩ := aStr_run hR hxr h
      exact ⟨u, by simp only [execOp, Sem.run_bind, hu, Result.andThen, Sem.run_pure], hv⟩
    cases h
    rename_i h
    unfold aConv at h
    split at h
    · split at h
      · rename_i d1 k hs hd
        have hdu := tInt_u hd
        cases h
        simp only [VR] at hxr
        refine ⟨_, ?_, rfl⟩
        simp only [execOp, Sem.run_bind, convert, run_und hs, run_und hdu, Result.andThen, hxr]
        cases d1 <;> simp [Conv.intToInt]
      · cases h
    · cases h
  · simp only [Option.bind_eq_some_iff] at h
    obtain ⟨x, hx, h⟩ := h
    have hxr := hR.get hx
    unfold aIface at h
    split at h
    · rename_i ht
      have hrun := fun v => run_mkIface (P := P) (w := w) ht v
      split at h
      · cases h
        simp only [VR] at hxr
        exact ⟨_, by simp only [execOp, Sem.run_bind, hrun, Result.andThen, Sem.run_pure, hxr], rfl⟩
      · cases h
      · cases h
        refine ⟨.iface _ (a.eval _), by simp only [execOp, Sem.run_bind, hrun, Result.andThen, Sem.run_pure]; rfl, ?_⟩
        simp only [VR]
        exact ⟨_, rfl, hxr⟩
    · cases h
  · simp only [Option.bind_eq_some_iff] at h
    obtain ⟨x, hx, lo, hlo, hi, hhi, mx, hmx, h⟩ := h
    obtain ⟨u, hu, hr⟩ := aSlice_run hR.heap (hR.get hx) (evalO_rel hR hlo) (evalO_rel hR hhi) (evalO_rel hR hmx) h
    exact ⟨u, by simp only [execOp, Sem.run_bind, hu, Result.andThen, Sem.run_pure], hr⟩
  · simp only [Option.bind_eq_some_iff] at h
    obtain ⟨x, hx, h⟩ := h
    obtain ⟨u, hu, hr⟩ := aFieldAddr_run (hR.get hx) h
    exact ⟨u, by simp only [execOp, Sem.run_bind, hu, Result.andThen, Sem.run_pure], hr⟩
  · simp only [Option.bind_eq_some_iff] at h
    obtain ⟨x, hx, h⟩ := h
    obtain ⟨u, hu, hr⟩ := aField_run (hR.get hx) h
    exact ⟨u, by simp only [execOp, Sem.run_bind, hu, Result.andThen, Sem.run_pure], hr⟩
  · simp only [Option.bind_eq_some_iff] at h
    obtain ⟨x, hx, y, hy, h⟩ := h
    obtain ⟨u, hu, hr⟩ := aIndexAddr_run (hR.get hx) (hR.get hy) h
    exact ⟨u, by simp only [execOp, Sem.run_bind, hu, Result.andThen, Sem.run_pure], hr⟩
  · simp only [Option.bind_eq_some_iff] at h
    obtain ⟨x, hx, y, hy, h⟩ := h
    obtain ⟨u, hu, hr⟩ := aIndex_run (hR.get hx) (hR.get hy) h
    exact ⟨u, by simp only [execOp, Sem.run_bind, hu, Result.andThen, Sem.run_pure], hr⟩
  · simp only [Option.bind_eq_some_iff] at h
    obtain ⟨x, hx, h⟩ := h
    have hxr := hR.get hx
    split at h
    · simp only [VR] at hxr
      obtain ⟨vs, hv, hr⟩ := hxr
      obtain ⟨u, hu, hur⟩ := hr.get h
      exact ⟨u, by simp [execOp, hv, Instr.extract, hu], hur⟩
    · cases h
  · obtain ⟨u, hu, hr⟩ := aCallB_run (ty := ty) hR h
    exact ⟨u, hu, hr⟩
  · cases h

/-- what an operation tells, and what memory is behind it -/
theorem memOp_run {P : Program} {ρ F st a w} (hR : Rel ρ F st a w) {o : Oper} {v : AV} {st' : St} (h : memOp P st o.dst o.op = some (v, st')) :
    ∃ nx u w' ρ', (execOp a.eval o).run P w = .ok nx w' ∧ (nx = .value u ∨ (nx = .skip ∧ u = undef)) ∧ Rel ρ' F st' a w' ∧ VR ρ' F w' v u ∧ Fr ρ F w ρ' F w' := by
  have pureCase : ∀ {v st'}, (pureOp P st o.op).map (fun v => (v, st)) = some (v, st') → ∃ nx u w' ρ', (execOp a.eval o).run P w = .ok nx w' ∧ (nx = .value u ∨ (nx = .skip ∧ u = undef)) ∧ Rel ρ' F st' a w' ∧ VR ρ' F w' v u ∧ Fr ρ F w ρ' F w' := by
    intro v st' h
    simp only [Option.map_eq_some_iff, Prod.mk.injEq] at h
    obtain ⟨_, h, rfl, rfl⟩ := h
    obtain ⟨u, hu, hr⟩ := pureOp_run hR h
    exact ⟨_, u, w, ρ, hu, .inl rfl, hR, hr, Fr.refl _ _ _⟩
  obtain ⟨dst, op, ty, pos, after, guard⟩ := o
  simp only at h pureCase
  unfold memOp at h
  split at h
  · simp only [Option.bind_eq_some_iff] at h
    obtain ⟨d, hd, h⟩ := h
    obtain ⟨u, w', ρ', hr, h1, h2, h3⟩ := aAlloc_run hR h
    exact ⟨_, u, w', ρ', by simp only [execOp, Sem.run_bind, hr, Result.andThen, Sem.run_pure], .inl rfl, h1, h2, h3⟩
  · simp only [Option.bind_eq_some_iff] at h
    obtain ⟨d, hd, x, hx, h⟩ := h
    obtain ⟨u, w', ρ', hr, h1, h2, h3⟩ := aBox_run (P := P) hR (hR.get hx) h
    exact ⟨_, u, w', ρ', by simp only [execOp, Sem.run_bind, hr, Result.andThen, Sem.run_pure], .inl rfl, h1, h2, h3⟩
  · simp only [Option.bind_eq_some_iff] at h
    obtain ⟨d, hd, vs, hvs, h⟩ := h
    split at h
    · rename_i hf
      obtain ⟨u, w', ρ', hr, h1, h2, h3⟩ := aBuildSlice_run hR hvs hf h
      exact ⟨_, u, w', ρ', by simp only [execOp, Sem.run_bind, hr, Result.andThen, Sem.run_pure], .inl rfl, h1, h2, h3⟩
    · cases h
  · simp only [Option.bind_eq_some_iff] at h
    obtain ⟨d, hd, l, hl, c, hc, li, hli, ci, hci, h⟩ := h
    obtain ⟨kl, hkl⟩ := intOf_rel hli (hR.get hl)
    obtain ⟨kc, hkc⟩ := intOf_rel hci (hR.get hc)
    obtain ⟨u, w', ρ', hr, h1, h2, h3⟩ := aMake_run (kl := kl) (kc := kc) hR h
    exact ⟨_, u, w', ρ', by simp only [execOp, Sem.run_bind, hkl, hkc, hr, Result.andThen, Sem.run_pure], .inl rfl, h1, h2, h3⟩
  · simp only [Option.bind_eq_some_iff, Option.map_eq_some_iff, Prod.mk.injEq] at h
    obtain ⟨x, hx, y, hy, s1, h, rfl, rfl⟩ := h
    obtain ⟨w', hr, h1, h2⟩ := aStore_run hR (hR.get hx) (hR.get hy) h
    exact ⟨_, undef, w', ρ, by simp only [execOp, Sem.run_bind, hr, Result.andThen, Sem.run_pure], .inr ⟨rfl, rfl⟩, h1, by simp only [VR], h2⟩
  · rename_i args ts
    simp only [Option.bind_eq_some_iff] at h
    obtain ⟨d, hd, h⟩ := h
    split at h
    · rename_i t t' s x hts hargs
      split at h
      · rename_i htt
        subst htt
        simp only [Option.bind_eq_some_iff] at h
        obtain ⟨y, hy, z, hz, h⟩ := h
        obtain ⟨u, w', ρ', hr, h1, h2, h3⟩ := aApp_run (P := P) (ty := ty) hR (hR.get hy) (hR.get hz) h
        refine ⟨_, u, w', ρ', ?_, .inl rfl, h1, h2, h3⟩
        rw [arr2 hts, arr2 hargs]
        simp [execOp, resolve, invoke, builtin, hr]
      · cases h
    · cases h
  · rename_i args ts
    split at h
    · rename_i t t' s x hts hargs
      simp only [Option.bind_eq_some_iff] at h
      obtain ⟨y, hy, z, hz, h⟩ := h
      obtain ⟨u, w', ρ', hr, h1, h2, h3⟩ := aCopy_run (P := P) (tx := t') (ty := ty) hR (hR.get hy) (hR.get hz) h
      refine ⟨_, u, w', ρ', ?_, .inl rfl, h1, h2, h3⟩
      rw [arr2 hts, arr2 hargs]
      simp [execOp, resolve, invoke, builtin, hr]
    · cases h
  · exact pureCase h
end Go.Proofs.YtjeafkodcmbabaaDoor.E

namespace Go.Proofs.YtjeafkodcmbabaaDoor.E
set_option linter.unusedVariables false
set_option linter.unusedSimpArgs false
/-! ## Regions and code -/
def gOk (ops : Array Oper) (st : St) (o : Oper) : Option Bool := match o.guard with
  | none => some true
  | some (j, want) => ((ops[j]?).bind (·.dst)).bind fun t => match get? t st.t with | some (.val (.bool b)) => some (b == want) | some (.val (.tuple _)) => some false | _ => none

def dOk (n : Nat) : Option Tmp → Bool
  | none => true
  | some d => decide (d < n)

def stepOp (P : Program) (ops : Array Oper) (i : Nat) (st : St) : Option St := match ops[i]? with
  | none => none
  | some o => if dOk st.n o.dst then match gOk ops st o with
    | none => none
    | some true => (memOp P st o.dst o.op).map fun p => p.2.put o.dst p.1
    | some false => some (st.put o.dst (.val (.tuple #[])))
    else none

def runOps (P : Program) (ops : Array Oper) : List Nat → St → Option St
  | [], st => some st
  | i :: l, st => (stepOp P ops i st).bind (runOps P ops l)

def AOps (P : Program) (ops : Array Oper) (l : List Nat) (K : St → Prop) (st : St) : Prop :=
  ∀ ρ F a w (Q : Exit → Act → World → Prop), Rel ρ F st a w → (∀ st' ρ' F' a' w', K st' → Rel ρ' F' st' a' w' → Fr ρ F w ρ' F' w' → Q .normal a' w') → wpOps P ops Q l a w

theorem gOk_rel {ρ F st a w} (hR : Rel ρ F st a w) {ops : Array Oper} {o : Oper} {b : Bool} (h : gOk ops st o = some b) : Region.wanted o (yielded ops a.tmps) = b := by
  unfold gOk at h
  unfold Region.wanted
  split at h
  · cases h; simp_all
  · rename_i j want hg
    simp only [hg]
    obtain ⟨t, ht, h⟩ := Option.bind_eq_some_iff.1 h
    split at h
    · rename_i b' hb
      cases h
      obtain ⟨h1, h2⟩ := hR.tmps t _ (get?_mem hb)
      simp only [VR] at h2
      have hlt : t < a.tmps.size := by rw [hR.size]; exact h1
      have this : a.tmps[t]? = some (.bool b') := by
        rw [Array.getElem?_eq_getElem hlt]
        simpa [Array.getD, hlt] using h2
      have hy : yielded ops a.tmps j = some b' := by
        unfold yielded
        rw [ht]
        simp [this]
      rw [hy]
      cases b' <;> cases want <;> rfl
    · rename_i vs hb
      cases h
      obtain ⟨h1, h2⟩ := hR.tmps t _ (get?_mem hb)
      simp only [VR] at h2
      have hlt : t < a.tmps.size := by rw [hR.size]; exact h1
      have this : a.tmps[t]? = some (.tuple vs) := by
        rw [Array.getElem?_eq_getElem hlt]
        simpa [Array.getD, hlt] using h2
      have hy : yielded ops a.tmps j = none := by
        unfold yielded
        rw [ht]
        simp [this]
      rw [hy]
      cases want <;> rfl
    · cases h

theorem dOk_lt {n : Nat} {d : Option Tmp} (h : dOk n d = true) : ∀ t, d = some t → t < n := by
  intro t e; subst e; simpa [dOk] using h

theorem mapT_n (st : St) (l : Nat) : (st.drop l).n = st.n := rfl

theorem memOp_n {P : Program} {st st' : St} {d : Option Tmp} {o : Op} {v : AV} {ρ F a w} (h : memOp P st d o = some (v, st')) (hR : Rel ρ F st a w) {ρ' F' w'} (hR' : Rel ρ' F' st' a w') : st'.n = st.n := by
  rw [← hR.size, ← hR'.size]

theorem AOps.nil {P ops K st} (h : K st) : AOps P ops [] K st := fun ρ F a w Q hR hQ => hQ st ρ F a w h hR (Fr.refl _ _ _)

theorem stepOp_run {P : Program} {ops : Array Oper} {i : Nat} {st st' : St} (h : stepOp P ops i st = some st') {ρ F a w} (hR : Rel ρ F st a w) :
    ∃ a' w' ρ', Rel ρ' F st' a' w' ∧ Fr ρ F w ρ' F w' ∧ ∀ (Q : Exit → Act → World → Prop) rest, wpOps P ops Q rest a' w' → wpOps P ops Q (i :: rest) a w := by
  unfold stepOp at h
  split at h
  · cases h
  · rename_i o ho
    split at h
    · rename_i hd
      have hd := dOk_lt hd
      split at h
      · cases h
      · rename_i hg
        have hw := gOk_rel hR hg
        simp only [Option.map_eq_some_iff] at h
        obtain ⟨⟨v, s1⟩, hm, rfl⟩ := h
        obtain ⟨nx, u, w', ρ', hr, hnx, hR', hv, hF⟩ := memOp_run hR hm
        have hn := memOp_n hm hR hR'
        refine ⟨a.put o.dst u, w', ρ', hR'.put (by rw [hn]; exact hd) hv, hF, ?_⟩
        intro Q rest hq
        simp only [wpOps, ho, hw, if_true]
        refine .inl ?_
        simp only [Oper.wp, hr]
        rcases hnx with rfl | ⟨rfl, rfl⟩ <;> exact hq
      · rename_i hg
        have hw := gOk_rel hR hg
        cases h
        refine ⟨a.put o.dst undef, w, ρ, hR.put hd (by simp only [VR]; rfl), Fr.refl _ _ _, ?_⟩
        intro Q rest hq
        simp only [wpOps, ho, hw, Bool.false_eq_true, if_false]
        exact hq
    · cases h

theorem AOps.step {P ops i rest K st st'} (h : stepOp P ops i st = some st') (hk : AOps P ops rest K st') : AOps P ops (i :: rest) K st := by
  intro ρ F a w Q hR hQ
  obtain ⟨a', w', ρ', hR', hF, hw⟩ := stepOp_run h hR
  exact hw Q rest (hk ρ' F a' w' Q hR' fun st' ρ'' F' a' w' hk hr hf => hQ st' ρ'' F' a' w' hk hr (hF.trans hf))

theorem AOps.run {P ops K} : ∀ (l : List Nat) {rest : List Nat} {st st' : St}, runOps P ops l st = some st' → AOps P ops rest K st' → AOps P ops (l ++ rest) K st
  | [], rest, st, st', h, hk => by simp [runOps] at h; subst h; exact hk
  | i :: l, rest, st, st', h, hk => by
    simp only [runOps, Option.bind_eq_some_iff] at h
    obtain ⟨s1, h1, h2⟩ := h
    exact AOps.step h1 (AOps.run l h2 hk)

/-! ### code -/
def AW (P : Program) (c : Code) (K : Exit → St → Prop) (st : St) : Prop :=
  ∀ ρ F a w (Q : Exit → Act → World → Prop), Rel ρ F st a w → (∀ e st' ρ' F' a' w', K e st' → Rel ρ' F' st' a' w' → Fr ρ F w ρ' F' w' → Q e a' w') → c.wp P Q a w

theorem AW.skip {P K st} (h : K .normal st) : AW P .skip K st := fun ρ F a w Q hR hQ => wp_skip (hQ _ _ _ _ _ _ h hR (Fr.refl _ _ _))
theorem AW.label {P K st l} (h : K .normal st) : AW P (.label l) K st := fun ρ F a w Q hR hQ => wp_label (hQ _ _ _ _ _ _ h hR (Fr.refl _ _ _))
theorem AW.exit {P K st id} (h : K (.exit id) st) : AW P (.exit id) K st := fun ρ F a w Q hR hQ => wp_exit (hQ _ _ _ _ _ _ h hR (Fr.refl _ _ _))
theorem AW.ret {P K st} (h : K .ret st) : AW P .ret K st := fun ρ F a w Q hR hQ => wp_ret (hQ _ _ _ _ _ _ h hR (Fr.refl _ _ _))

/-- what comes behind -/
def Kseq (P : Program) (y : Code) (K : Exit → St → Prop) : Exit → St → Prop
  | .normal, st => AW P y K st
  | e, st => K e st
theorem AW.seq {P x y K st} (h : AW P x (Kseq P y K) st) : AW P (.seq x y) K st := by
  intro ρ F a w Q hR hQ
  refine wp_seq (h ρ F a w _ hR ?_)
  intro e st' ρ' F' a' w' hk hr hf
  cases e <;> first
    | exact hk ρ' F' a' w' Q hr (fun e st2 ρ2 F2 a2 w2 h1 h2 h3 => hQ e st2 ρ2 F2 a2 w2 h1 h2 (hf.trans h3))
    | exact hQ _ _ _ _ _ _ hk hr hf

def Kblock (id : Nat) (K : Exit → St → Prop) : Exit → St → Prop
  | .exit id', st => if id' = id then K .normal st else K (.exit id') st
  | e, st => K e st
theorem AW.block {P id c K st} (h : AW P c (Kblock id K) st) : AW P (.block id c) K st := by
  intro ρ F a w Q hR hQ
  refine wp_block (h ρ F a w _ hR ?_)
  intro e st' ρ' F' a' w' hk hr hf
  cases e with
  | exit id' =>
    simp only [Kblock, Exit.inBlock] at hk ⊢
    by_cases hid : id' = id
    · rw [if_pos hid] at hk ⊢; exact hQ _ _ _ _ _ _ hk hr hf
    · rw [if_neg hid] at hk ⊢; exact hQ _ _ _ _ _ _ hk hr hf
  | _ => exact hQ _ _ _ _ _ _ hk hr hf

theorem AW.cond {P c x y K st} {b : Bool} (hc : st.eval c = some (.val (.bool b))) (ht : b = true → AW P x K st) (hf : b = false → AW P y K st) : AW P (.cond c x y) K st := by
  intro ρ F a w Q hR hQ
  have h := hR.get hc
  simp only [VR] at h
  cases b
  · exact wp_cond_false h (hf rfl ρ F a w Q hR hQ)
  · exact wp_cond_true h (ht rfl ρ F a w Q hR hQ)

theorem AW.mono {P c st} {K K' : Exit → St → Prop} (h : AW P c K st) (hk : ∀ e s, K e s → K' e s) : AW P c K' st :=
  fun ρ F a w Q hR hQ => h ρ F a w Q hR fun e s ρ' F' a' w' h1 => hQ e s ρ' F' a' w' (hk e s h1)

def Kloop (J : St → Prop) (K : Exit → St → Prop) : Exit → St → Prop
  | .normal, st => J st
  | e, st => K e st
theorem AW.loop {P c K st} (I : Nat → St → Prop) (n : Nat) (h0 : I n st) (round : ∀ n st, I n st → AW P c (Kloop (fun s => ∃ m, m < n ∧ I m s) K) st) : AW P (.loop c) K st := by
  intro ρ F a w Q hR hQ b k cs
  have key : ∀ n st ρ' F' a w', I n st → Rel ρ' F' st a w' → Fr ρ F w ρ' F' w' →
      ∃ e a' w'', Q e a' w'' ∧ Arrives P (lone (b.at a (.code c :: .inLoop c :: k)) cs w') b k cs e a' w'' := by
    intro n
    induction n using Nat.strongRecOn with
    | _ n ih =>
      intro st ρ' F' a w' hI hR hF
      obtain ⟨e, a₁, w₁, hq, harr⟩ := round n st hI ρ' F' a w' (fun e a1 w1 => match e with
          | .normal => ∃ m s ρ'' F'', m < n ∧ I m s ∧ Rel ρ'' F'' s a1 w1 ∧ Fr ρ F w ρ'' F'' w1
          | e => Q e a1 w1) hR (by
        intro e s ρ'' F'' a' w'' hk hr hf
        cases e <;> first
          | (obtain ⟨m, hm, hI⟩ := hk; exact ⟨m, s, ρ'', F'', hm, hI, hr, hF.trans hf⟩)
          | exact hQ _ _ _ _ _ _ hk hr (hF.trans hf)) b (.inLoop c :: k) cs
      cases e with
      | normal =>
        obtain ⟨m, s, ρ'', F'', hm, hI', hr, hf⟩ := hq
        obtain ⟨e₂, a₂, w₂, hq₂, harr₂⟩ := ih m hm s ρ'' F'' a₁ w₁ hI' hr hf
        exact ⟨e₂, a₂, w₂, hq₂, .of_steps (Steps.trans harr (.one step_inLoop)) harr₂⟩
      | exit id => exact ⟨_, a₁, w₁, hq, .pass (x := .inLoop c) rfl (fun _ _ => .inl (by simp)) harr⟩
      | goto l => exact ⟨_, a₁, w₁, hq, .pass (x := .inLoop c) rfl (fun _ _ => .inl (by simp)) harr⟩
      | ret => exact ⟨_, a₁, w₁, hq, .pass (x := .inLoop c) rfl (fun _ _ => .inl (by simp)) harr⟩
      | panic ch => exact ⟨_, a₁, w₁, hq, .pass (x := .inLoop c) rfl (fun _ _ => .inl (by simp)) harr⟩
      | outgrown => exact ⟨_, a₁, w₁, hq, .pass (x := .inLoop c) rfl (fun _ _ => .inl (by simp)) harr⟩
  obtain ⟨e, a', w', hq, harr⟩ := key n st ρ F a w h0 hR (Fr.refl _ _ _)
  exact ⟨e, a', w', hq, .of_steps (.one step_loop) harr⟩

theorem AW.region {P id ops K st} (h : AOps P ops (List.range ops.size) (K .normal) st) : AW P (.region id ops false) K st :=
  fun ρ F a w Q hR hQ => wp_region (h ρ F a w Q hR fun st' ρ' F' a' w' hk hr hf => hQ _ _ _ _ _ _ hk hr hf)

/-! ### turning a state -/
/-- a state that stands for all that another one stands for -/
def Sub (st st' : St) : Prop := ∀ ρ F a w, Rel ρ F st a w → ∃ ρ' F', Rel ρ' F' st' a w ∧ Fr ρ F w ρ' F' w
theorem Sub.refl (st : St) : Sub st st := fun ρ F a w h => ⟨ρ, F, h, Fr.refl _ _ _⟩
theorem Sub.trans {a b c : St} (h : Sub a b) (k : Sub b c) : Sub a c := fun ρ F x w hR => by
  obtain ⟨ρ1, F1, h1, f1⟩ := h ρ F x w hR
  obtain ⟨ρ2, F2, h2, f2⟩ := k ρ1 F1 x w h1
  exact ⟨ρ2, F2, h2, f1.trans f2⟩
theorem AW.sub {P c K st st'} (hs : Sub st st') (h : AW P c K st') : AW P c K st := fun ρ F a w Q hR hQ => by
  obtain ⟨ρ1, F1, h1, f1⟩ := hs ρ F a w hR
  exact h ρ1 F1 a w Q h1 fun e s ρ' F' a' w' k r f => hQ e s ρ' F' a' w' k r (f1.trans f)
theorem AOps.sub {P ops l K st st'} (hs : Sub st st') (h : AOps P ops l K st') : AOps P ops l K st := fun ρ F a w Q hR hQ => by
  obtain ⟨ρ1, F1, h1, f1⟩ := hs ρ F a w hR
  exact h ρ1 F1 a w Q h1 fun s ρ' F' a' w' k r f => hQ s ρ' F' a' w' k r (f1.trans f)
/-- what comes behind may be asked of a turned state -/
theorem AW.subK {P c K K' st} (h : AW P c K' st) (hk : ∀ e s, K' e s → ∃ s', Sub s s' ∧ K e s') : AW P c K st := fun ρ F a w Q hR hQ =>
  h ρ F a w Q hR fun e s ρ' F' a' w' k r f => by
    obtain ⟨s', hs, hk'⟩ := hk e s k
    obtain ⟨ρ2, F2, h2, f2⟩ := hs ρ' F' a' w' r
    exact hQ e s' ρ2 F2 a' w' hk' h2 (f.trans f2)

theorem Sub.drop (st : St) (l : Nat) : Sub st (st.drop l) := fun ρ F a w h => ⟨_, F, h.drop l, Fr.drop _ _ _ _⟩

/-- only these slots -/
def keepT (ks : List Nat) : List (Nat × AV) → List (Nat × AV)
  | [] => []
  | (k, v) :: r => if ks.contains k then (k, v) :: keepT ks r else keepT ks r
theorem mem_keepT {ks : List Nat} {p : Nat × AV} : ∀ {l}, p ∈ keepT ks l → p ∈ l
  | [], h => by simp [keepT] at h
  | (k, v) :: r, h => by
    simp only [keepT] at h
    split at h
    · rcases List.mem_cons.1 h with rfl | h
      · simp
      · exact List.mem_cons_of_mem _ (mem_keepT h)
    · exact List.mem_cons_of_mem _ (mem_keepT h)
def St.keep (st : St) (ks : List Nat) : St := { st with t := keepT ks st.t }
theorem Sub.keep (st : St) (ks : List Nat) : Sub st (st.keep ks) := fun ρ F a w h => ⟨ρ, F, ⟨h.heap, h.size, h.defers, fun t v hv => h.tmps t v (mem_keepT hv)⟩, Fr.refl _ _ _⟩

/-- a label's name is turned -/
theorem Sub.relabel {st : St} {l L : Nat} {B : Blk} (hB : get? l st.h = some B) (hb : B.boxy = false) (hL : 1000 ≤ L) {t : Nat} {n z : Nat} (ht : get? t st.t = some (.ref l 0 n z)) :
    Sub st { ((st.drop l).new L B) with t := ins t (.ref L 0 n z) ((st.drop l).new L B).t } := by
  intro ρ F a w hR
  obtain ⟨htn, htr⟩ := hR.tmps t _ (get?_mem ht)
  have go : ∀ ρ', Rel ρ' F ((st.drop l).new L B) a w → VR ρ' F w (.ref L 0 n z) (a.tmps.getD t undef) → Rel ρ' F { ((st.drop l).new L B) with t := ins t (.ref L 0 n z) ((st.drop l).new L B).t } a w := by
    intro ρ' h hv
    refine ⟨h.heap, h.size, h.defers, ?_⟩
    intro t' v' hv'
    rcases mem_ins hv' with e | ⟨hv', _⟩
    · cases e; exact ⟨htn, hv⟩
    · exact h.tmps t' v' hv'
  cases hl : ρ l with
  | some x =>
    obtain ⟨r, m⟩ := x
    refine ⟨_, F, go _ (hR.rename (L := L) hB hl hb) ?_, Fr.rename hl hL⟩
    simp only [VR] at htr ⊢
    rcases htr with ⟨r', m', cap, h1, h2⟩ | h
    · rw [hl] at h1; cases h1
      exact .inl ⟨r, m, cap, by simp [rset], h2⟩
    · exact .inr h
  | none =>
    rcases hR.heap.blk l B (get?_mem hB) with ⟨h0, _⟩ | ⟨r, m, c, h1, _⟩
    · have hBB : B = ⟨B.e, false, []⟩ := by cases B; simp_all
      refine ⟨rdel L (rdel l ρ), F, go _ ?_ ?_, (Fr.drop _ _ _ _).trans (Fr.drop _ _ _ _)⟩
      · rw [hBB]; exact (hR.drop l).blank L _
      · simp only [VR] at htr ⊢
        rcases htr with ⟨r', m', cap, h1, h2⟩ | h
        · rw [hl] at h1; cases h1
        · exact .inr h
    · rw [hl] at h1; cases h1

/-- a nil slice is one's own -/
theorem Sub.born {st : St} {t : Nat} (L : Nat) (e : TypeId) (z : Nat) (ht : get? t st.t = some (.val (.slice none 0 0)) ∨ get? t st.t = some .emp) :
    Sub st { (st.new L ⟨e, false, []⟩) with t := ins t (.ref L 0 0 z) (st.new L ⟨e, false, []⟩).t } := by
  intro ρ F a w hR
  have hb : ∃ base, a.tmps.getD t undef = .slice base 0 0 := by
    rcases ht with ht | ht
    · have := (hR.tmps t _ (get?_mem ht)).2
      simp only [VR] at this
      exact ⟨none, this⟩
    · have := (hR.tmps t _ (get?_mem ht)).2
      simpa only [VR] using this
  have htn : t < st.n := by rcases ht with ht | ht <;> exact (hR.tmps t _ (get?_mem ht)).1
  have h := hR.blank L e
  refine ⟨_, F, ⟨h.heap, h.size, h.defers, ?_⟩, Fr.drop _ _ _ _⟩
  intro t' v' hv'
  rcases mem_ins hv' with e | ⟨hv', _⟩
  · cases e
    refine ⟨htn, ?_⟩
    simp only [VR]
    exact .inr ⟨trivial, hb⟩
  · exact h.tmps t' v' hv'
end Go.Proofs.YtjeafkodcmbabaaDoor.E
