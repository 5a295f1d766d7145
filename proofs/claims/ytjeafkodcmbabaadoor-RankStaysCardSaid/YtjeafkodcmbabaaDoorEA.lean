/- E, a reader of Go's code as the model has it: a contract of a function is proved over values that are told without memory (EA). -/
import Derived.WalkKit
import Derived.Orders
import Derived.WideShapes
import Derived.Carry
import Derived.Laws.BytesArg
set_option linter.unusedVariables false
set_option linter.unusedSimpArgs false
open Go
namespace Go.Proofs.YtjeafkodcmbabaaDoor.E
set_option linter.unusedVariables false
set_option linter.unusedSimpArgs false

/-- What a slot may hold, told without memory. -/
inductive AV where
  | val (v : Value)
  | agg (cs : List AV)
  | tup (cs : List AV)
  | ptr (l off : Nat)
  | ref (l off n z : Nat)
  | sl (n : Nat) (cs : List AV)
  | fptr (cs : List AV)
  | clo (f : FuncId) (cs : List AV)
  | ifc (t : TypeId) (c : AV)
  | emp
  | dead
  deriving Inhabited

abbrev Rho := Nat → Option (Nat × Nat)

/-- The values stand one behind the other in memory that is not written any more. -/
def Froz (F : Nat → Prop) (w : World) (base : Option Addr) (vs : List Value) : Prop :=
  vs = [] ∨ ∃ b off, base = some ⟨b, off, none⟩ ∧ F b ∧ ∀ (i : Nat) v, vs[i]? = some v → w.cell? ⟨b, off + i, none⟩ = some v ∧ v.oneCell' = true

mutual
def VR (ρ : Rho) (F : Nat → Prop) (w : World) : AV → Value → Prop
  | .val v, x => x = v
  | .agg cs, x => ∃ vs : List Value, x = .agg vs.toArray ∧ VRs ρ F w cs vs
  | .tup cs, x => ∃ vs : List Value, x = .tuple vs.toArray ∧ VRs ρ F w cs vs
  | .ptr l off, x => ∃ r m, ρ l = some (r, m) ∧ x = .pointer (some ⟨r, off, none⟩)
  | .ref l off n z, x => (∃ r m cap, ρ l = some (r, m) ∧ x = .slice (some ⟨r, off, none⟩) n cap ∧ n ≤ cap ∧ off + cap * z ≤ m ∧ cap ≤ maxLen) ∨ (n = 0 ∧ ∃ base, x = .slice base 0 0)
  | .sl n cs, x => ∃ base cap, ∃ vs : List Value, x = .slice base n cap ∧ n ≤ cap ∧ cap ≤ maxLen ∧ VRs (fun _ => none) F w cs vs ∧ Froz F w base vs ∧ (base = none → cap = 0) ∧ (∀ a, base = some a → 0 < n → a.spot = none)
  | .fptr cs, x => ∃ a, ∃ vs : List Value, x = .pointer (some a) ∧ a.spot = none ∧ VRs (fun _ => none) F w cs vs ∧ Froz F w (some a) vs
  | .clo f cs, x => ∃ vs : List Value, x = .func (.func f) #[] vs.toArray ∧ VRs ρ F w cs vs
  | .ifc t c, x => ∃ v, x = .iface t v ∧ VR ρ F w c v
  | .emp, x => ∃ base, x = .slice base 0 0
  | .dead, _ => True
def VRs (ρ : Rho) (F : Nat → Prop) (w : World) : List AV → List Value → Prop
  | [], vs => vs = []
  | c :: cs, vs => ∃ v rest, vs = v :: rest ∧ VR ρ F w c v ∧ VRs ρ F w cs rest
end

theorem VRs.len {ρ F w} : ∀ {cs : List AV} {vs : List Value}, VRs ρ F w cs vs → vs.length = cs.length
  | [], vs, h => by simp [VRs] at h; simp [h]
  | c :: cs, vs, h => by
    simp only [VRs] at h
    obtain ⟨v, rest, rfl, _, h⟩ := h
    simp [VRs.len h]

theorem VRs.get {ρ F w} : ∀ {cs : List AV} {vs : List Value}, VRs ρ F w cs vs → ∀ {i : Nat} {c : AV}, cs[i]? = some c → ∃ v, vs[i]? = some v ∧ VR ρ F w c v
  | [], vs, h, i, c, hc => by simp at hc
  | c :: cs, vs, h, i, d, hc => by
    simp only [VRs] at h
    obtain ⟨v, rest, rfl, hv, h⟩ := h
    cases i with
    | zero => simp at hc; subst hc; exact ⟨v, by simp, hv⟩
    | succ i => simp at hc; obtain ⟨u, hu, hd⟩ := VRs.get h hc; exact ⟨u, by simpa using hu, hd⟩

theorem VRs.append {ρ F w} : ∀ {cs ds : List AV} {vs us : List Value}, VRs ρ F w cs vs → VRs ρ F w ds us → VRs ρ F w (cs ++ ds) (vs ++ us)
  | [], ds, vs, us, h, k => by simp [VRs] at h; simpa [h] using k
  | c :: cs, ds, vs, us, h, k => by
    simp only [VRs] at h
    obtain ⟨v, rest, rfl, hv, h⟩ := h
    exact ⟨v, rest ++ us, rfl, hv, VRs.append h k⟩

theorem VRs.drop {ρ F w} : ∀ {cs : List AV} {vs : List Value} (n : Nat), VRs ρ F w cs vs → VRs ρ F w (cs.drop n) (vs.drop n)
  | cs, vs, 0, h => by simpa using h
  | [], vs, n + 1, h => by simp [VRs] at h; simp [h, VRs]
  | c :: cs, vs, n + 1, h => by
    simp only [VRs] at h
    obtain ⟨v, rest, rfl, hv, h⟩ := h
    simpa using VRs.drop n h

theorem VRs.take {ρ F w} : ∀ {cs : List AV} {vs : List Value} (n : Nat), VRs ρ F w cs vs → VRs ρ F w (cs.take n) (vs.take n)
  | cs, vs, 0, h => by simp [VRs]
  | [], vs, n + 1, h => by simp [VRs] at h; simp [h, VRs]
  | c :: cs, vs, n + 1, h => by
    simp only [VRs] at h
    obtain ⟨v, rest, rfl, hv, h⟩ := h
    exact ⟨v, rest.take n, by simp, hv, VRs.take n h⟩

theorem VRs.set {ρ F w} : ∀ {cs : List AV} {vs : List Value} (n : Nat) {c : AV} {v : Value}, VRs ρ F w cs vs → VR ρ F w c v → VRs ρ F w (cs.set n c) (vs.set n v)
  | [], vs, n, c, v, h, hv => by simp [VRs] at h; simp [h, VRs]
  | d :: cs, vs, 0, c, v, h, hv => by
    simp only [VRs] at h
    obtain ⟨u, rest, rfl, hu, h⟩ := h
    exact ⟨v, rest, by simp, hv, h⟩
  | d :: cs, vs, n + 1, c, v, h, hv => by
    simp only [VRs] at h
    obtain ⟨u, rest, rfl, hu, h⟩ := h
    exact ⟨u, rest.set n v, by simp, hu, VRs.set n h hv⟩

theorem VRs.of_get {ρ F w} : ∀ {cs : List AV} {vs : List Value}, vs.length = cs.length → (∀ (i : Nat) (c : AV) (v : Value), cs[i]? = some c → vs[i]? = some v → VR ρ F w c v) → VRs ρ F w cs vs
  | [], vs, h, _ => by simpa [VRs] using h
  | c :: cs, [], h, _ => by simp at h
  | c :: cs, v :: vs, h, k => ⟨v, vs, rfl, k 0 c v (by simp) (by simp), VRs.of_get (by simpa using h) fun i d u hd hu => k (i + 1) d u (by simpa using hd) (by simpa using hu)⟩

/-- Memory that is not written any more is as it was; the own blocks are where they were. -/
structure Keeps (ρ : Rho) (F : Nat → Prop) (w : World) (ρ' : Rho) (F' : Nat → Prop) (w' : World) : Prop where
  own : ∀ l x, ρ l = some x → ρ' l = some x
  froz : ∀ b, F b → F' b
  cell : ∀ b off v, F b → w.cell? ⟨b, off, none⟩ = some v → w'.cell? ⟨b, off, none⟩ = some v

theorem Froz.keep {F F' : Nat → Prop} {w w' : World} {base vs} (hF : ∀ b, F b → F' b) (hc : ∀ b off v, F b → w.cell? ⟨b, off, none⟩ = some v → w'.cell? ⟨b, off, none⟩ = some v)
    (h : Froz F w base vs) : Froz F' w' base vs := by
  rcases h with h | ⟨b, off, rfl, hb, h⟩
  · exact .inl h
  · exact .inr ⟨b, off, rfl, hF b hb, fun i v hv => ⟨hc _ _ _ hb (h i v hv).1, (h i v hv).2⟩⟩

mutual
theorem VR.keep {ρ ρ' : Rho} {F F' : Nat → Prop} {w w' : World} (hF : ∀ b, F b → F' b) (hc : ∀ b off v, F b → w.cell? ⟨b, off, none⟩ = some v → w'.cell? ⟨b, off, none⟩ = some v) (ho : ∀ l x, ρ l = some x → ρ' l = some x) :
    ∀ (c : AV) (v : Value), VR ρ F w c v → VR ρ' F' w' c v
  | .val _, _, h => h
  | .agg cs, v, h => by simp only [VR] at h ⊢; obtain ⟨vs, e, h⟩ := h; exact ⟨vs, e, VRs.keep hF hc ho cs vs h⟩
  | .tup cs, v, h => by simp only [VR] at h ⊢; obtain ⟨vs, e, h⟩ := h; exact ⟨vs, e, VRs.keep hF hc ho cs vs h⟩
  | .ptr l off, v, h => by simp only [VR] at h ⊢; obtain ⟨r, m, h1, h2⟩ := h; exact ⟨r, m, ho _ _ h1, h2⟩
  | .ref l off n z, v, h => by
    simp only [VR] at h ⊢
    rcases h with ⟨r, m, cap, h1, h2⟩ | h
    · exact .inl ⟨r, m, cap, ho _ _ h1, h2⟩
    · exact .inr h
  | .sl n cs, v, h => by
    simp only [VR] at h ⊢
    obtain ⟨base, cap, vs, e, h1, h2, h3, h4, h5⟩ := h
    exact ⟨base, cap, vs, e, h1, h2, VRs.keep hF hc (fun _ _ h => h) cs vs h3, h4.keep hF hc, h5⟩
  | .fptr cs, v, h => by
    simp only [VR] at h ⊢
    obtain ⟨a, vs, e, h1, h3, h4⟩ := h
    exact ⟨a, vs, e, h1, VRs.keep hF hc (fun _ _ h => h) cs vs h3, h4.keep hF hc⟩
  | .clo f cs, v, h => by simp only [VR] at h ⊢; obtain ⟨vs, e, h⟩ := h; exact ⟨vs, e, VRs.keep hF hc ho cs vs h⟩
  | .ifc t c, x, h => by simp only [VR] at h ⊢; obtain ⟨v, e, h⟩ := h; exact ⟨v, e, VR.keep hF hc ho c v h⟩
  | .emp, v, h => by simpa only [VR] using h
  | .dead, v, _ => by simp only [VR]
theorem VRs.keep {ρ ρ' : Rho} {F F' : Nat → Prop} {w w' : World} (hF : ∀ b, F b → F' b) (hc : ∀ b off v, F b → w.cell? ⟨b, off, none⟩ = some v → w'.cell? ⟨b, off, none⟩ = some v) (ho : ∀ l x, ρ l = some x → ρ' l = some x) :
    ∀ (cs : List AV) (vs : List Value), VRs ρ F w cs vs → VRs ρ' F' w' cs vs
  | [], vs, h => by simpa [VRs] using h
  | c :: cs, vs, h => by
    simp only [VRs] at h ⊢
    obtain ⟨v, rest, e, hv, h⟩ := h
    exact ⟨v, rest, e, VR.keep hF hc ho c v hv, VRs.keep hF hc ho cs rest h⟩
end

end Go.Proofs.YtjeafkodcmbabaaDoor.E

namespace Go.Proofs.YtjeafkodcmbabaaDoor.E
/-! ## States -/
structure Blk where
  e : TypeId
  boxy : Bool
  cs : List AV
  deriving Inhabited

structure St where
  n : Nat
  t : List (Nat × AV)
  h : List (Nat × Blk)
  deriving Inhabited

def get? {α : Type} (k : Nat) : List (Nat × α) → Option α
  | [] => none
  | (j, x) :: r => if j = k then some x else get? k r
def del {α : Type} (k : Nat) : List (Nat × α) → List (Nat × α)
  | [] => []
  | (j, x) :: r => if j = k then del k r else (j, x) :: del k r
def ins {α : Type} (k : Nat) (v : α) : List (Nat × α) → List (Nat × α)
  | [] => [(k, v)]
  | (j, x) :: r => if j = k then (k, v) :: del k r else if k < j then (k, v) :: (j, x) :: del k r else (j, x) :: ins k v r

theorem mem_del {α : Type} {k : Nat} {p : Nat × α} : ∀ {l : List (Nat × α)}, p ∈ del k l → p ∈ l ∧ p.1 ≠ k
  | [], h => by simp [del] at h
  | (j, x) :: r, h => by
    simp only [del] at h
    split at h
    · exact ⟨List.mem_cons_of_mem _ (mem_del h).1, (mem_del h).2⟩
    · rcases List.mem_cons.1 h with rfl | h
      · exact ⟨by simp, by assumption⟩
      · exact ⟨List.mem_cons_of_mem _ (mem_del h).1, (mem_del h).2⟩

theorem mem_ins {α : Type} {k : Nat} {v : α} {p : Nat × α} : ∀ {l : List (Nat × α)}, p ∈ ins k v l → p = (k, v) ∨ (p ∈ l ∧ p.1 ≠ k)
  | [], h => by simp [ins] at h; exact .inl h
  | (j, x) :: r, h => by
    simp only [ins] at h
    split at h
    · rcases List.mem_cons.1 h with rfl | h
      · exact .inl rfl
      · exact .inr ⟨List.mem_cons_of_mem _ (mem_del h).1, (mem_del h).2⟩
    · split at h
      · rcases List.mem_cons.1 h with rfl | h
        · exact .inl rfl
        · rcases List.mem_cons.1 h with rfl | h
          · exact .inr ⟨by simp, by assumption⟩
          · exact .inr ⟨List.mem_cons_of_mem _ (mem_del h).1, (mem_del h).2⟩
      · rcases List.mem_cons.1 h with rfl | h
        · exact .inr ⟨by simp, by assumption⟩
        · rcases mem_ins h with h | ⟨h, hk⟩
          · exact .inl h
          · exact .inr ⟨List.mem_cons_of_mem _ h, hk⟩

theorem mem_ins_self {α : Type} (k : Nat) (v : α) : ∀ (l : List (Nat × α)), (k, v) ∈ ins k v l
  | [] => by simp [ins]
  | (j, x) :: r => by
    simp only [ins]
    split
    · simp
    · split
      · simp
      · exact List.mem_cons_of_mem _ (mem_ins_self k v r)

theorem get?_mem {α : Type} {k : Nat} {v : α} : ∀ {l : List (Nat × α)}, get? k l = some v → (k, v) ∈ l
  | [], h => by simp [get?] at h
  | (j, x) :: r, h => by
    simp only [get?] at h
    split at h
    · subst_vars; simp at h; subst h; simp
    · exact List.mem_cons_of_mem _ (get?_mem h)

/-- A slot's value. -/
def AV.ofV : Value → AV
  | .agg vs => .agg (vs.toList.map .val)
  | .tuple vs => .tup (vs.toList.map .val)
  | v => .val v

def St.eval (st : St) : Operand → Option AV
  | .tmp t => get? t st.t
  | .const v => some (AV.ofV v)
  | .global g => some (.val (.pointer (some ⟨g, 0, none⟩)))
  | .func f => some (.clo f [])

def St.put (st : St) : Option Tmp → AV → St
  | none, _ => st
  | some d, v => { st with t := ins d v st.t }

/-- A row of cells of a block; what of it may not be written lies behind its cells. -/
def Cel (o : Option Obj) (c : Array Value) (e : TypeId) : Prop := ∃ fr : Nat × Nat, o = some (.cells c e fr) ∧ (fr.2 = 0 ∨ c.size ≤ fr.1)
theorem Cel.mk0 {o : Option Obj} {c : Array Value} {e : TypeId} (h : o = some (.cells c e (0, 0))) : Cel o c e := ⟨_, h, .inl rfl⟩
theorem Cel.cell {w : World} {r i : Nat} {c : Array Value} {e : TypeId} (h : Cel w.heap[r]? c e) : w.cell? ⟨r, i, none⟩ = c[i]? := by obtain ⟨fr, h, _⟩ := h; simp [World.cell?, h]
/-- A package variable of the library's that is never written, by its block, and what it holds. -/
def Glb (g : Nat) (v : Value) : Prop := g = 0 ∧ v = .iface 94 (.agg #[.pointer (some ⟨3, 32, none⟩)])
/-- What memory holds, and what the slots do. -/
structure HRel (ρ : Rho) (F : Nat → Prop) (h : List (Nat × Blk)) (w : World) : Prop where
  blk : ∀ (l : Nat) (B : Blk), (l, B) ∈ h → (B.cs = [] ∧ ρ l = none) ∨ ∃ r m c, ρ l = some (r, m) ∧ Cel w.heap[r]? c B.e ∧ c.size = m ∧
    ∃ vs : List Value, VRs (if B.boxy then ρ else fun _ => none) F w B.cs vs ∧ vs.length ≤ m ∧ (∀ (i : Nat) v, vs[i]? = some v → c[i]? = some v ∧ v.oneCell' = true)
  inj : ∀ l l' r m m', ρ l = some (r, m) → ρ l' = some (r, m') → l = l'
  apart : ∀ l r m, ρ l = some (r, m) → ¬ F r
  lt : ∀ l r m, ρ l = some (r, m) → r < w.heap.size
  flt : ∀ b, F b → b < w.heap.size
  glb : ∀ g v, Glb g v → F g ∧ w.cell? ⟨g, 0, none⟩ = some v

theorem glb_below {F : Nat → Prop} {w w' : World} (hg : ∀ g v, Glb g v → F g ∧ w.cell? ⟨g, 0, none⟩ = some v) (hlt : ∀ b, F b → b < w.heap.size) (hb : ∀ k, k < w.heap.size → w'.heap[k]? = w.heap[k]?) : ∀ g v, Glb g v → F g ∧ w'.cell? ⟨g, 0, none⟩ = some v := fun g v h => by
  obtain ⟨h1, h2⟩ := hg g v h
  refine ⟨h1, ?_⟩
  simp only [World.cell?, hb g (hlt g h1)] at h2 ⊢
  exact h2
structure Rel (ρ : Rho) (F : Nat → Prop) (st : St) (a : Act) (w : World) : Prop where
  heap : HRel ρ F st.h w
  size : a.tmps.size = st.n
  defers : a.defers = []
  tmps : ∀ (t : Nat) (v : AV), (t, v) ∈ st.t → t < st.n ∧ VR ρ F w v (a.tmps.getD t undef)

/-- What a step leaves as it was. -/
structure Fr (ρ : Rho) (F : Nat → Prop) (w : World) (ρ' : Rho) (F' : Nat → Prop) (w' : World) : Prop where
  os : w'.os = w.os
  tape : w'.tape = w.tape
  output : w'.output = w.output
  size : w.heap.size ≤ w'.heap.size
  block : ∀ k, k < w.heap.size → (∀ l r m, ρ l = some (r, m) → r ≠ k) → w'.heap[k]? = w.heap[k]?
  froz : ∀ b, F b → F' b
  froz' : ∀ b, F' b → F b ∨ (∃ l m, ρ l = some (b, m)) ∨ w.heap.size ≤ b
  own : ∀ l r m, ρ' l = some (r, m) → (∃ l' m', ρ l' = some (r, m')) ∨ w.heap.size ≤ r
  same : ∀ l, l < 1000 → ∀ x y, ρ l = some x → ρ' l = some y → x = y
  gone : ∀ l, l < 1000 → ρ l = none → ρ' l = none

theorem Fr.refl (ρ : Rho) (F : Nat → Prop) (w : World) : Fr ρ F w ρ F w :=
  ⟨rfl, rfl, rfl, Nat.le_refl _, fun _ _ _ => rfl, fun _ h => h, fun _ h => .inl h, fun l r m h => .inl ⟨l, m, h⟩, fun _ _ x y h k => by rw [h] at k; exact Option.some.inj k, fun _ _ h => h⟩

theorem Fr.trans {ρ F w ρ' F' w' ρ'' F'' w''} (h : Fr ρ F w ρ' F' w') (k : Fr ρ' F' w' ρ'' F'' w'') : Fr ρ F w ρ'' F'' w'' where
  os := k.os.trans h.os
  tape := k.tape.trans h.tape
  output := k.output.trans h.output
  size := Nat.le_trans h.size k.size
  block := fun i hi hn => by
    rw [k.block i (Nat.lt_of_lt_of_le hi h.size) ?_, h.block i hi hn]
    intro l r m hl e
    rcases h.own l r m hl with ⟨l', m', hl'⟩ | hge
    · exact hn l' r m' hl' e
    · omega
  froz := fun b hb => k.froz b (h.froz b hb)
  froz' := fun b hb => by
    rcases k.froz' b hb with hb | ⟨l, m, hl⟩ | hge
    · exact h.froz' b hb
    · rcases h.own l b m hl with ⟨l', m', hl'⟩ | hge
      · exact .inr (.inl ⟨l', m', hl'⟩)
      · exact .inr (.inr hge)
    · exact .inr (.inr (Nat.le_trans h.size hge))
  own := fun l r m hl => by
    rcases k.own l r m hl with ⟨l', m', hl'⟩ | hge
    · exact h.own l' r m' hl'
    · exact .inr (Nat.le_trans h.size hge)
  same := fun l hlt x y hx hy => by
    cases hz : ρ' l with
    | none => rw [k.gone l hlt hz] at hy; cases hy
    | some z => exact (h.same l hlt x z hx hz).trans (k.same l hlt z y hz hy)
  gone := fun l hlt h0 => k.gone l hlt (h.gone l hlt h0)

theorem Rel.get {ρ F st a w} (h : Rel ρ F st a w) {x : Operand} {v : AV} (hx : st.eval x = some v) : VR ρ F w v (a.eval x) := by
  cases x with
  | tmp t => exact (h.tmps t v (get?_mem hx)).2
  | const c =>
    simp only [St.eval, Option.some.injEq] at hx
    subst hx
    have key : ∀ vs : List Value, VRs ρ F w (vs.map .val) vs := by
      intro vs
      induction vs with
      | nil => simp [VRs]
      | cons v vs ih => exact ⟨v, vs, rfl, by simp [VR], ih⟩
    cases c <;> simp only [AV.ofV, VR, Act.eval]
    · exact ⟨_, by simp, key _⟩
    · exact ⟨_, by simp, key _⟩
  | global g => simp only [St.eval, Option.some.injEq] at hx; subst hx; simp [VR, Act.eval]
  | func f => simp only [St.eval, Option.some.injEq] at hx; subst hx; exact ⟨[], by simp [Act.eval], by simp [VRs]⟩

theorem getD_set {a : Array Value} {d t : Nat} {v u : Value} (hd : d < a.size) : (a.setIfInBounds d v).getD t u = if t = d then v else a.getD t u := by
  simp only [Array.getD_eq_getD_getElem?, Array.getElem?_setIfInBounds]
  split
  · subst_vars; simp [hd]
  · rename_i h; rw [if_neg (fun e => h e.symm)]

/-- A slot is written; memory stays. -/
theorem Rel.put {ρ F st a w} (h : Rel ρ F st a w) {d : Option Tmp} {v : AV} {x : Value} (hd : ∀ t, d = some t → t < st.n) (hv : VR ρ F w v x) :
    Rel ρ F (st.put d v) (a.put d x) w := by
  cases d with
  | none => exact h
  | some d =>
    refine ⟨h.heap, by simp [Act.put, St.put, h.size], h.defers, ?_⟩
    intro t u hu
    rcases mem_ins hu with e | ⟨hu, hne⟩
    · cases e
      refine ⟨hd _ rfl, ?_⟩
      simp only [Act.put]
      rw [getD_set (by rw [h.size]; exact hd _ rfl), if_pos rfl]
      exact hv
    · obtain ⟨h1, h2⟩ := h.tmps t u hu
      refine ⟨h1, ?_⟩
      simp only [Act.put]
      rw [getD_set (by rw [h.size]; exact hd _ rfl), if_neg hne]
      exact h2
end Go.Proofs.YtjeafkodcmbabaaDoor.E

namespace Go.Proofs.YtjeafkodcmbabaaDoor.E
/-! ## Operations that write nothing -/
def tSz (P : Program) (t : TypeId) : Option Nat := (P.info? t).map (·.size)
def tBytes (P : Program) (t : TypeId) : Option Nat := (P.info? t).map (·.bytes)
def tAgg (P : Program) (t : TypeId) : Option Bool := (P.underlying t).map fun d => match d with | .struct _ | .array _ _ => true | _ => false
def tZero (P : Program) (t : TypeId) : Option (List Value) := ((P.info? t).bind (·.zero)).map fun z => z.cells.toList
/-- a struct's field: how far in, and its type -/
def tField (P : Program) (s f : Nat) : Option (Nat × TypeId) := match P.underlying s with | some (.struct fs) => (fs[f]?).map fun x => (x.offset, x.type) | _ => none
def tSlice (P : Program) (t : TypeId) : Option TypeId := match P.underlying t with | some (.slice e) => some e | _ => none
def tArray (P : Program) (t : TypeId) : Option (Nat × TypeId) := match P.underlying t with | some (.array n e) => some (n, e) | _ => none
def tInt (P : Program) (t : TypeId) : Option IntKind := match P.underlying t with | some (.int k) => some k | _ => none
def tIface (P : Program) (t : TypeId) : Option Bool := (P.underlying t).map fun d => match d with | .interface _ => true | _ => false
inductive Cls where | bool | string | pointer | slice | iface | other
def tCls (P : Program) (t : TypeId) : Cls := match P.underlying t with | some .bool => .bool | some .string => .string | some (.pointer _) => .pointer | some (.slice _) => .slice | some (.interface _) => .iface | _ => .other

/-- so many cells, as one value -/
def takeAgg (cs : List AV) (z : Nat) : Option AV := if z ≤ cs.length then some (.agg (cs.take z)) else none
def part (P : Program) (t : TypeId) (cs : List AV) : Option AV :=
  match tAgg P t, tSz P t with
  | some true, some z => takeAgg cs z
  | some false, some _ => cs.head?
  | _, _ => none

def ld (P : Program) (t : TypeId) (h : List (Nat × Blk)) : AV → Option AV
  | .ptr l off => (get? l h).bind fun B => part P t (B.cs.drop off)
  | .fptr cs => part P t cs
  | _ => none

def aBin (P : Program) (op : BinOp) (t : TypeId) : AV → AV → Option AV
  | .val (.int k a), .val (.int k' b) =>
    match op with
    | .shl => if b < 0 then none else some (.val (.int k (k.wrap (a * 2 ^ (min b.toNat k.bits)))))
    | .shr => if b < 0 then none else some (.val (.int k (a.fdiv (2 ^ (min b.toNat k.bits)))))
    | .add => if k = k' then some (.val (.int k (k.wrap (a + b)))) else none
    | .sub => if k = k' then some (.val (.int k (k.wrap (a - b)))) else none
    | .mul => if k = k' then some (.val (.int k (k.wrap (a * b)))) else none
    | .quo => if k = k' then (if b = 0 then none else some (.val (.int k (k.wrap (a.tdiv b))))) else none
    | .rem => if k = k' then (if b = 0 then none else some (.val (.int k (a.tmod b)))) else none
    | .and => if k = k' then some (.val (.int k (k.wrap (BitVec.ofInt k.bits a &&& BitVec.ofInt k.bits b).toNat))) else none
    | .or => if k = k' then some (.val (.int k (k.wrap (BitVec.ofInt k.bits a ||| BitVec.ofInt k.bits b).toNat))) else none
    | .xor => if k = k' then some (.val (.int k (k.wrap (BitVec.ofInt k.bits a ^^^ BitVec.ofInt k.bits b).toNat))) else none
    | .andNot => if k = k' then some (.val (.int k (k.wrap (BitVec.ofInt k.bits a &&& ~~~ BitVec.ofInt k.bits b).toNat))) else none
    | .eql => if k = k' then some (.val (.bool (a == b))) else none
    | .neq => if k = k' then some (.val (.bool (a != b))) else none
    | .lss => if k = k' then some (.val (.bool (decide (a < b)))) else none
    | .leq => if k = k' then some (.val (.bool (decide (a ≤ b)))) else none
    | .gtr => if k = k' then some (.val (.bool (decide (a > b)))) else none
    | .geq => if k = k' then some (.val (.bool (decide (a ≥ b)))) else none
  | .val (.bool a), .val (.bool b) =>
    match tCls P t, op with
    | .bool, .eql => some (.val (.bool (a == b)))
    | .bool, .neq => some (.val (.bool (!(a == b))))
    | _, _ => none
  | .val (.string a), .val (.string b) =>
    match op with
    | .eql => some (.val (.bool (a.toList == b.toList)))
    | .neq => some (.val (.bool (!(a.toList == b.toList))))
    | _ => none
  | _, _ => none

theorem run_tSz {P : Program} {t z : Nat} {w : World} (h : tSz P t = some z) : (sizeOf t).run P w = .ok z w := by
  simp only [tSz, Option.map_eq_some_iff] at h
  obtain ⟨i, hi, rfl⟩ := h
  simp [sizeOf, typeInfo, hi]

theorem run_tAgg {P : Program} {t : Nat} {b : Bool} {w : World} (h : tAgg P t = some b) : (isAgg t).run P w = .ok b w := by
  simp only [tAgg, Option.map_eq_some_iff] at h
  obtain ⟨d, hd, rfl⟩ := h
  simp only [isAgg, Sem.run_bind, run_underlying hd, Result.andThen]
  cases d <;> rfl

theorem Froz.cells {F w b off} {vs : List Value} (h : Froz F w (some ⟨b, off, none⟩) vs) : ∀ (i : Nat) v, vs[i]? = some v → w.cell? ⟨b, off + i, none⟩ = some v ∧ v.oneCell' = true := by
  rcases h with rfl | ⟨b', off', e, _, h⟩
  · simp
  · cases e; exact h

theorem Froz.drop {F w b off} {vs : List Value} (h : Froz F w (some ⟨b, off, none⟩) vs) (n : Nat) : Froz F w (some ⟨b, off + n, none⟩) (vs.drop n) := by
  rcases h with rfl | ⟨b', off', e, hb, h⟩
  · exact .inl (by simp)
  · cases e
    refine .inr ⟨_, _, rfl, hb, fun i v hv => ?_⟩
    have := h (n + i) v (by simpa using hv)
    simpa [Nat.add_assoc] using this

theorem Froz.take {F w base} {vs : List Value} (h : Froz F w base vs) (n : Nat) : Froz F w base (vs.take n) := by
  rcases h with rfl | ⟨b', off', e, hb, h⟩
  · exact .inl (by simp)
  · refine .inr ⟨_, _, e, hb, fun i v hv => h i v ?_⟩
    rw [List.getElem?_take] at hv
    split at hv
    · exact hv
    · cases hv

theorem add_none (b off i : Nat) : (⟨b, off, none⟩ : Addr).add i = ⟨b, off + i, none⟩ := by unfold Addr.add; split <;> simp_all

/-- Cells that stand in memory, read as a value of a type. -/
theorem part_run {P : Program} {t : TypeId} {ρ F} {w : World} {cs : List AV} {vs : List Value} {v : AV} {b off : Nat} (h : part P t cs = some v) (hv : VRs ρ F w cs vs)
    (hc : ∀ (i : Nat) u, vs[i]? = some u → w.cell? ⟨b, off + i, none⟩ = some u) : ∃ x, (loadVar t ⟨b, off, none⟩).run P w = .ok x w ∧ VR ρ F w v x := by
  unfold part at h
  split at h
  · rename_i z ha hz
    simp only [takeAgg] at h
    split at h
    · rename_i hl
      cases h
      have ht := hv.take z
      have hlen : (vs.take z).length = z := by rw [List.length_take, hv.len]; omega
      refine ⟨.agg (vs.take z).toArray, ?_, _, rfl, ht⟩
      have := run_loadCells_list (P := P) w ⟨b, off, none⟩ (vs.take z) (fun j u hu => by
        rw [add_none]
        refine hc j u ?_
        rw [List.getElem?_take] at hu
        split at hu
        · exact hu
        · cases hu)
      rw [hlen] at this
      simp only [loadVar, Sem.run_bind, run_tAgg ha, Result.andThen, if_true, run_tSz hz, this]
      rfl
    · cases h
  · rename_i z ha hz
    cases cs with
    | nil => simp at h
    | cons c cs =>
      simp at h
      subst h
      simp only [VRs] at hv
      obtain ⟨u, rest, rfl, hu, _⟩ := hv
      have h0 := hc 0 u (by simp)
      refine ⟨u, ?_, hu⟩
      simp only [Nat.add_zero] at h0
      simp [loadVar, Sem.run_bind, run_tAgg ha, h0]
  · cases h

theorem VRs.up {ρ F w} {cs : List AV} {vs : List Value} (h : VRs (fun _ => none) F w cs vs) : VRs ρ F w cs vs :=
  VRs.keep (fun _ h => h) (fun _ _ _ _ h => h) (fun _ _ h => by cases h) cs vs h

/-- An own block's content. -/
theorem HRel.cells {ρ F h w} (hr : HRel ρ F h w) {l : Nat} {B : Blk} (hB : get? l h = some B) {r m : Nat} (hl : ρ l = some (r, m)) :
    ∃ c, Cel w.heap[r]? c B.e ∧ c.size = m ∧ ∃ vs : List Value, VRs ρ F w B.cs vs ∧ VRs (if B.boxy then ρ else fun _ => none) F w B.cs vs ∧ vs.length ≤ m ∧
      ∀ (i : Nat) v, vs[i]? = some v → c[i]? = some v ∧ v.oneCell' = true ∧ w.cell? ⟨r, i, none⟩ = some v := by
  rcases hr.blk l B (get?_mem hB) with ⟨_, h0⟩ | ⟨r', m', c, hl', hh, hs, vs, hv, hle, hcs⟩
  · rw [hl] at h0; cases h0
  · rw [hl] at hl'
    cases hl'
    refine ⟨c, hh, hs, vs, ?_, hv, hle, fun i v hi => ⟨(hcs i v hi).1, (hcs i v hi).2, ?_⟩⟩
    · cases hb : B.boxy
      · rw [hb] at hv; exact VRs.up hv
      · rw [hb] at hv; exact hv
    · obtain ⟨fr, hh, _⟩ := hh; simp [World.cell?, hh, (hcs i v hi).1]

theorem ld_run {P : Program} {t : TypeId} {ρ F h w} {x v : AV} {y : Value} (hr : HRel ρ F h w) (hx : VR ρ F w x y) (hl : ld P t h x = some v) :
    ∃ u, (Instr.loadAt t y).run P w = .ok u w ∧ VR ρ F w v u := by
  cases x <;> simp only [ld] at hl <;> try cases hl
  · rename_i l off
    simp only [VR] at hx
    obtain ⟨r, m, hlr, rfl⟩ := hx
    cases hB : get? l h with
    | none => simp [hB] at hl
    | some B =>
      simp only [hB, Option.bind_some] at hl
      obtain ⟨c, _, _, vs, hv, _, _, hcs⟩ := hr.cells hB hlr
      obtain ⟨u, hu, hvu⟩ := part_run (b := r) (off := off) hl (hv.drop off) (fun i u hu => (hcs (off + i) u (by simpa using hu)).2.2)
      exact ⟨u, by simp [Instr.loadAt, Instr.sureAddr, hu], hvu⟩
  · rename_i cs
    simp only [VR] at hx
    obtain ⟨a, vs, rfl, hs, hv, hf⟩ := hx
    obtain ⟨b, off, sp⟩ := a
    simp only at hs
    subst hs
    obtain ⟨u, hu, hvu⟩ := part_run (b := b) (off := off) hl (VRs.up hv) (fun i u hu => (hf.cells i u hu).1)
    exact ⟨u, by simp [Instr.loadAt, Instr.sureAddr, hu], hvu⟩

theorem aBin_run {P : Program} {op : BinOp} {t : TypeId} {x y v : AV} {ρ F w} {a b : Value} {ox oy : Operand} (hx : VR ρ F w x a) (hy : VR ρ F w y b) (h : aBin P op t x y = some v) :
    ∃ u, (do eqGuard op t ox oy a b; binOp op t a b).run P w = .ok u w ∧ VR ρ F w v u := by
  unfold aBin at h
  split at h
  · simp only [VR] at hx hy
    subst hx hy
    have hg : ∀ k n k' n', (eqGuard op t ox oy (.int k n) (.int k' n')).run P w = .ok () w := by intro k n k' n'; cases op <;> simp [eqGuard]
    simp only [Sem.run_bind, hg, Result.andThen]
    cases op <;> simp only at h <;> (repeat' split at h) <;> cases h <;>
      refine ⟨_, ?_, rfl⟩ <;> (try simp_all [binOp, Op.intArith, Op.intDiv, Op.intBits, Op.intCmp, Op.shift]) <;> (try (intro hneg; exfalso; omega))
  · simp only [VR] at hx hy
    subst hx hy
    have hg : ∀ n n', (eqGuard op t ox oy (.bool n) (.bool n')).run P w = .ok () w := by intro n n'; cases op <;> simp [eqGuard]
    simp only [Sem.run_bind, hg, Result.andThen]
    unfold tCls at h
    cases hu : P.underlying t with
    | none => simp [hu] at h
    | some d =>
      cases d <;> simp [hu] at h <;> try (cases h; done)
      cases op <;> simp at h <;> subst h <;> refine ⟨_, ?_, rfl⟩ <;> simp only [binOp, Sem.run_bind, run_equal_bool _ _ _ _ hu] <;> rfl
  · simp only [VR] at hx hy
    subst hx hy
    have hg : ∀ n n', (eqGuard op t ox oy (.string n) (.string n')).run P w = .ok () w := by intro n n'; cases op <;> simp [eqGuard]
    simp only [Sem.run_bind, hg, Result.andThen]
    cases op <;> simp at h <;> subst h <;> refine ⟨_, ?_, rfl⟩ <;> simp [binOp, Op.stringOp]
  · cases h
end Go.Proofs.YtjeafkodcmbabaaDoor.E

namespace Go.Proofs.YtjeafkodcmbabaaDoor.E
/-! ## More operations that write nothing -/

/-! ### equality of structs and arrays -/
inductive Ck where | bool | int | string deriving DecidableEq
mutual
def eqN (P : Program) : Nat → TypeId → Option (List Ck)
  | 0, _ => none
  | d + 1, t => match P.underlying t with
    | some .bool => some [.bool]
    | some (.int _) => some [.int]
    | some .string => some [.string]
    | some (.struct fs) => if P.stoodInHeld t then none else eqF P d fs.toList 0
    | some (.array n e) => (eqN P d e).bind fun k => if tSz P e = some k.length ∧ 0 < k.length then some (List.replicate n k).flatten else none
    | _ => none
def eqF (P : Program) : Nat → List Field → Nat → Option (List Ck)
  | _, [], _ => some []
  | d, f :: fs, off => if f.name ≠ "_" ∧ f.offset = off then (eqN P d f.type).bind fun k => if tSz P f.type = some k.length ∧ 0 < k.length then (eqF P d fs (off + k.length)).map (k ++ ·) else none else none
end

def cEq : Ck → AV → AV → Option Bool
  | .bool, .val (.bool a), .val (.bool b) => some (a == b)
  | .int, .val (.int k a), .val (.int k' b) => if k = k' then some (a == b) else none
  | .string, .val (.string a), .val (.string b) => some (a.toList == b.toList)
  | _, _, _ => none
def csEq : List Ck → List AV → List AV → Option Bool
  | [], [], [] => some true
  | k :: ks, c :: cs, d :: ds => (cEq k c d).bind fun r => (csEq ks cs ds).map (r && ·)
  | _, _, _ => none
/-- the same over values -/
def cEqV : Ck → Value → Value → Option Bool
  | .bool, .bool a, .bool b => some (a == b)
  | .int, .int k a, .int k' b => if k = k' then some (a == b) else none
  | .string, .string a, .string b => some (a.toList == b.toList)
  | _, _, _ => none
def csEqV : List Ck → List Value → List Value → Option Bool
  | [], _, _ => some true
  | k :: ks, c :: cs, d :: ds => (cEqV k c d).bind fun r => (csEqV ks cs ds).map (r && ·)
  | _, _, _ => none

theorem cEq_V {ρ F w} {k : Ck} {c d : AV} {u v : Value} {r : Bool} (hc : VR ρ F w c u) (hd : VR ρ F w d v) (h : cEq k c d = some r) : cEqV k u v = some r := by
  unfold cEq at h
  split at h
  · simp only [VR] at hc hd; subst hc hd; exact h
  · simp only [VR] at hc hd; subst hc hd; exact h
  · simp only [VR] at hc hd; subst hc hd; exact h
  · cases h

theorem csEq_V {ρ F w} : ∀ {ks : List Ck} {cs ds : List AV} {us vs : List Value} {r : Bool}, VRs ρ F w cs us → VRs ρ F w ds vs → csEq ks cs ds = some r → csEqV ks us vs = some r ∧ us.length = ks.length ∧ vs.length = ks.length
  | [], [], [], us, vs, r, hc, hd, h => by simp only [VRs] at hc hd; subst hc hd; simpa [csEq, csEqV] using h
  | [], _ :: _, _, _, _, _, _, _, h => by simp [csEq] at h
  | [], [], _ :: _, _, _, _, _, _, h => by simp [csEq] at h
  | _ :: _, [], _, _, _, _, _, _, h => by simp [csEq] at h
  | _ :: _, _ :: _, [], _, _, _, _, _, h => by simp [csEq] at h
  | k :: ks, c :: cs, d :: ds, us, vs, r, hc, hd, h => by
    simp only [VRs] at hc hd
    obtain ⟨u, us, rfl, hu, hc⟩ := hc
    obtain ⟨v, vs, rfl, hv, hd⟩ := hd
    simp only [csEq, Option.bind_eq_some_iff, Option.map_eq_some_iff] at h
    obtain ⟨a, ha, b, hb, rfl⟩ := h
    obtain ⟨h1, h2, h3⟩ := csEq_V hc hd hb
    exact ⟨by simp [csEqV, cEq_V hu hv ha, h1], by simp [h2], by simp [h3]⟩

theorem csEqV_append : ∀ {ks js : List Ck} {us vs : List Value} {r : Bool}, csEqV (ks ++ js) us vs = some r →
    ∃ a b, csEqV ks us vs = some a ∧ csEqV js (us.drop ks.length) (vs.drop ks.length) = some b ∧ r = (a && b)
  | [], js, us, vs, r, h => ⟨true, r, by simp [csEqV], by simpa using h, by simp⟩
  | k :: ks, js, u :: us, v :: vs, r, h => by
    simp only [List.cons_append, csEqV, Option.bind_eq_some_iff, Option.map_eq_some_iff] at h
    obtain ⟨a, ha, b, hb, rfl⟩ := h
    obtain ⟨a', b', h1, h2, rfl⟩ := csEqV_append hb
    exact ⟨a && a', b', by simp [csEqV, ha, h1], by simpa using h2, by simp [Bool.and_assoc]⟩
  | k :: ks, js, [], _, r, h => by simp [csEqV] at h
  | k :: ks, js, _ :: _, [], r, h => by simp [csEqV] at h

theorem csEqV_take : ∀ {ks : List Ck} {us vs : List Value} {r : Bool}, csEqV ks us vs = some r → csEqV ks (us.take ks.length) (vs.take ks.length) = some r
  | [], us, vs, r, h => by simpa [csEqV] using h
  | k :: ks, u :: us, v :: vs, r, h => by
    simp only [csEqV, Option.bind_eq_some_iff, Option.map_eq_some_iff] at h
    obtain ⟨a, ha, b, hb, rfl⟩ := h
    simp [csEqV, ha, csEqV_take hb]
  | k :: ks, [], _, r, h => by simp [csEqV] at h
  | k :: ks, _ :: _, [], r, h => by simp [csEqV] at h

theorem csEqV_len : ∀ {ks : List Ck} {us vs : List Value} {r : Bool}, csEqV ks us vs = some r → ks.length ≤ us.length ∧ ks.length ≤ vs.length
  | [], us, vs, r, h => by simp
  | k :: ks, u :: us, v :: vs, r, h => by
    simp only [csEqV, Option.bind_eq_some_iff, Option.map_eq_some_iff] at h
    obtain ⟨a, ha, b, hb, rfl⟩ := h
    have := csEqV_len hb
    simp only [List.length_cons]
    omega
  | k :: ks, [], _, r, h => by simp [csEqV] at h
  | k :: ks, _ :: _, [], r, h => by simp [csEqV] at h

/-- what stands at a place of a struct's cells, as equality takes it -/
theorem run_partEq {P : Program} {w : World} {t : TypeId} {xs : Array Value} {off n : Nat} {ks : List Ck} {d : Nat} (hk : eqN P d t = some ks) (hz : tSz P t = some ks.length) (hp : 0 < ks.length) (hl : off + ks.length ≤ xs.size) :
    ∃ v, (Go.part t xs off).run P w = .ok v w ∧ ((v = .agg (xs.extract off (off + ks.length)) ∧ tAgg P t = some true) ∨ (∃ k, ks = [k] ∧ xs[off]? = some v ∧ tAgg P t = some false)) := by
  cases d with
  | zero => simp [eqN] at hk
  | succ d =>
    have key : ∃ dsc, P.underlying t = some dsc := by
      cases hu : P.underlying t with
      | none => simp [eqN, hu] at hk
      | some x => exact ⟨x, rfl⟩
    obtain ⟨dsc, hu⟩ := key
    have ha : ∃ b, tAgg P t = some b := ⟨_, by simp [tAgg, hu]; rfl⟩
    obtain ⟨b, ha⟩ := ha
    cases b
    · have h1 : ∃ k, ks = [k] := by
        cases dsc <;> simp [eqN, hu] at hk <;> first | exact ⟨_, hk.symm⟩ | (simp [tAgg, hu] at ha)
      obtain ⟨k, rfl⟩ := h1
      have hlt : off < xs.size := by have := hl; simp only [List.length_singleton] at this; omega
      refine ⟨xs[off], ?_, .inr ⟨k, rfl, by simp [hlt], ha⟩⟩
      simp [Go.part, run_tAgg ha, hlt]
    · refine ⟨_, ?_, .inl ⟨rfl, ha⟩⟩
      simp [Go.part, run_tAgg ha, run_tSz hz]

theorem extract_list (xs : Array Value) (off n : Nat) : (xs.extract off (off + n)).toList = (xs.toList.drop off).take n := by
  simp [List.drop_take]


/-- equality at a type, to a depth -/
def EqOk (P : Program) (d : Nat) : Prop := ∀ {t : TypeId} {ks : List Ck} (e : Nat) (w : World) {x y : Value} {r : Bool}, eqN P d t = some ks → d ≤ e →
    (x.cells.size = ks.length ∧ y.cells.size = ks.length) → (tAgg P t = some true → ∃ xs ys, x = .agg xs ∧ y = .agg ys) → (tAgg P t = some false → x.cells = #[x] ∧ y.cells = #[y]) → csEqV ks x.cells.toList y.cells.toList = some r →
    (Op.equalIn e t x y).run P w = .ok r w

theorem run_eqPart {P : Program} {d : Nat} (IH : EqOk P d) (e : Nat) (w : World) {t : TypeId} {k : List Ck} {off : Nat} {xs ys : Array Value} {a : Bool} (hk : eqN P d t = some k) (hle : d ≤ e) (hz : tSz P t = some k.length) (hp : 0 < k.length)
    (hxs : off + k.length ≤ xs.size) (hys : off + k.length ≤ ys.size) (h1 : csEqV k (xs.toList.drop off) (ys.toList.drop off) = some a) :
    ∃ u v, (Go.part t xs off).run P w = .ok u w ∧ (Go.part t ys off).run P w = .ok v w ∧ (Op.equalIn e t u v).run P w = .ok a w := by
  obtain ⟨u, hu, hu'⟩ := run_partEq (w := w) (n := 0) (off := off) (xs := xs) hk hz hp hxs
  obtain ⟨v, hv, hv'⟩ := run_partEq (w := w) (n := 0) (off := off) (xs := ys) hk hz hp hys
  refine ⟨u, v, hu, hv, ?_⟩
  have h1' := csEqV_take h1
  rcases hu' with ⟨rfl, hau⟩ | ⟨q, rfl, hq, hau⟩
  · rcases hv' with ⟨rfl, _⟩ | ⟨_, _, _, hav⟩
    · refine IH e w hk hle ?_ ?_ ?_ ?_
      · simp only [Value.cells, Array.size_extract]; omega
      · intro _; exact ⟨_, _, rfl, rfl⟩
      · intro hc; rw [hau] at hc; cases hc
      · simp only [Value.cells, extract_list]; exact h1'
    · rw [hau] at hav; cases hav
  · rcases hv' with ⟨_, hav⟩ | ⟨q', _, hq', _⟩
    · rw [hau] at hav; cases hav
    · have e1 : xs.toList.drop off = u :: xs.toList.drop (off + 1) := by
        obtain ⟨hl, rfl⟩ := Array.getElem?_eq_some_iff.1 hq
        rw [List.drop_eq_getElem_cons (by simpa using hl)]; simp
      have e2 : ys.toList.drop off = v :: ys.toList.drop (off + 1) := by
        obtain ⟨hl, rfl⟩ := Array.getElem?_eq_some_iff.1 hq'
        rw [List.drop_eq_getElem_cons (by simpa using hl)]; simp
      rw [e1, e2] at h1
      have hcu : u.cells = #[u] ∧ v.cells = #[v] := by
        simp only [csEqV, Option.bind_eq_some_iff] at h1
        obtain ⟨x1, hx1, _⟩ := h1
        cases q <;> cases u <;> cases v <;> simp [cEqV] at hx1 <;> simp [Value.cells]
      refine IH e w hk hle ?_ ?_ ?_ ?_
      · simp [hcu.1, hcu.2]
      · intro hc; rw [hau] at hc; cases hc
      · intro _; exact hcu
      · rw [hcu.1, hcu.2]
        simpa [csEqV] using h1

theorem run_eqF {P : Program} {d : Nat} (IH : EqOk P d) (e : Nat) (w : World) (hle : d ≤ e) : ∀ {fs : List Field} {off : Nat} {ks : List Ck} {xs ys : Array Value} {r : Bool}, eqF P d fs off = some ks →
    xs.size = off + ks.length → ys.size = off + ks.length → csEqV ks (xs.toList.drop off) (ys.toList.drop off) = some r →
    (Op.eqFields e xs ys fs).run P w = .ok r w
  | [], off, ks, xs, ys, r, hk, _, _, h => by
    simp [eqF] at hk
    subst hk
    simp [csEqV] at h
    subst h
    simp [Op.eqFields]
  | f :: fs, off, ks, xs, ys, r, hk, hxs, hys, h => by
    simp only [eqF] at hk
    split at hk
    · rename_i hn
      simp only [Option.bind_eq_some_iff] at hk
      obtain ⟨k, hk, hk2⟩ := hk
      split at hk2
      · rename_i hz
        simp only [Option.map_eq_some_iff] at hk2
        obtain ⟨k2, hk2, rfl⟩ := hk2
        obtain ⟨a, b, h1, h2, rfl⟩ := csEqV_append h
        simp only [List.length_append] at hxs hys
        obtain ⟨u, v, hu, hv, heq⟩ := run_eqPart IH e w hk hle hz.1 hz.2 (by omega) (by omega) h1
        have hrest := run_eqF IH e w hle (xs := xs) (ys := ys) (r := b) hk2 (by omega) (by omega) (by simpa [List.drop_drop] using h2)
        simp only [Op.eqFields, if_pos hn.1, hn.2, Sem.run_bind, hu, hv, Result.andThen, heq]
        cases a
        · simp
        · simp [hrest]
      · cases hk2
    · cases hk

theorem run_eqI {P : Program} {d : Nat} (IH : EqOk P d) (e : Nat) (w : World) (hle : d ≤ e) {t : TypeId} {k : List Ck} (hk : eqN P d t = some k) (hz : tSz P t = some k.length) (hp : 0 < k.length) :
    ∀ (m i : Nat) {xs ys : Array Value} {r : Bool}, (i + m) * k.length ≤ xs.size → (i + m) * k.length ≤ ys.size → csEqV (List.replicate m k).flatten (xs.toList.drop (i * k.length)) (ys.toList.drop (i * k.length)) = some r →
    (Op.eqItems e t k.length xs ys (List.range' i m)).run P w = .ok r w
  | 0, i, xs, ys, r, _, _, h => by
    simp [csEqV] at h
    subst h
    simp [Op.eqItems]
  | m + 1, i, xs, ys, r, hx, hy, h => by
    simp only [List.replicate_succ, List.flatten_cons] at h
    obtain ⟨a, b, h1, h2, rfl⟩ := csEqV_append h
    have hm : i * k.length + k.length ≤ (i + (m + 1)) * k.length := by rw [← Nat.succ_mul]; exact Nat.mul_le_mul_right _ (by omega)
    obtain ⟨u, v, hu, hv, heq⟩ := run_eqPart IH e w hk hle hz hp (off := i * k.length) (xs := xs) (ys := ys) (by omega) (by omega) h1
    have e1 : i + 1 + m = i + (m + 1) := by omega
    have hrest := run_eqI IH e w hle hk hz hp m (i + 1) (xs := xs) (ys := ys) (r := b) (by rw [e1]; exact hx) (by rw [e1]; exact hy) (by simpa [List.drop_drop, Nat.succ_mul] using h2)
    simp only [List.range'_succ, Op.eqItems, Sem.run_bind, hu, hv, Result.andThen, heq]
    cases a
    · simp
    · simp [hrest]

theorem eqOk (P : Program) : ∀ d, EqOk P d
  | 0 => fun e w _ _ _ hk => by simp [eqN] at hk
  | d + 1 => by
    rename_i t ks
    intro e w x y r hk hle hs hag hsc h
    cases e with
    | zero => omega
    | succ e =>
    simp only [eqN] at hk
    split at hk
    · rename_i hu
      cases hk
      obtain ⟨hx, hy⟩ := hsc (by simp [tAgg, hu])
      rw [hx, hy] at h
      simp only [csEqV, Option.bind_eq_some_iff, Option.map_eq_some_iff] at h
      obtain ⟨a, ha, b, hb, rfl⟩ := h
      cases x <;> cases y <;> simp [cEqV] at ha
      simp at hb; subst hb; subst ha
      rw [run_equalIn_bool _ _ _ _ _ hu]; simp
    · rename_i k hu
      cases hk
      obtain ⟨hx, hy⟩ := hsc (by simp [tAgg, hu])
      rw [hx, hy] at h
      simp only [csEqV, Option.bind_eq_some_iff, Option.map_eq_some_iff] at h
      obtain ⟨a, ha, b, hb, rfl⟩ := h
      cases x <;> cases y <;> simp [cEqV] at ha
      obtain ⟨rfl, rfl⟩ := ha
      simp at hb; subst hb
      rw [run_equalIn_int _ _ _ _ _ _ _ hu]; simp
    · rename_i hu
      cases hk
      obtain ⟨hx, hy⟩ := hsc (by simp [tAgg, hu])
      rw [hx, hy] at h
      simp only [csEqV, Option.bind_eq_some_iff, Option.map_eq_some_iff] at h
      obtain ⟨a, ha, b, hb, rfl⟩ := h
      cases x <;> cases y <;> simp [cEqV] at ha
      subst ha
      simp at hb; subst hb
      rw [run_equalIn_string _ _ _ _ _ hu]; simp
    · rename_i fs hu
      split at hk
      · cases hk
      · rename_i hst
        obtain ⟨xs, ys, rfl, rfl⟩ := hag (by simp [tAgg, hu])
        have hf : P.fieldsOf t = fs := by simp [Program.fieldsOf, hu]
        rw [run_equalIn_struct w e t xs ys (by rw [hf]; exact hu) (by simpa using hst), hf]
        exact run_eqF (eqOk P d) e w (by omega) hk (by simpa [Value.cells] using hs.1) (by simpa [Value.cells] using hs.2) (by simpa [Value.cells] using h)
    · rename_i n el hu
      simp only [Option.bind_eq_some_iff] at hk
      obtain ⟨k, hk, hk2⟩ := hk
      split at hk2
      · rename_i hz
        cases hk2
        obtain ⟨xs, ys, rfl, rfl⟩ := hag (by simp [tAgg, hu])
        simp only [Value.cells, List.length_flatten, List.map_replicate, List.sum_replicate_nat] at hs h
        have ha : ∃ j, P.info? el = some j ∧ j.size = k.length := by
          have := hz.1
          simp only [tSz, Option.map_eq_some_iff] at this
          exact this
        obtain ⟨j, hj, hjs⟩ := ha
        have hco : P.cellsOf el = k.length := by simp [Program.cellsOf, hj, hjs]
        rw [run_equalIn_array w e xs ys hu hj, hco, List.range_eq_range']
        exact run_eqI (eqOk P d) e w (by omega) hk hz.1 hz.2 n 0 (by rw [Nat.zero_add, hs.1]; exact Nat.le_refl _) (by rw [Nat.zero_add, hs.2]; exact Nat.le_refl _) (by simpa using h)
      · cases hk2
    · cases hk

/-- a type whose values are told apart by their cells; how many depths it has -/
def eqT (P : Program) (t : TypeId) : Option (List Ck) := match tAgg P t with | some true => if P.eqGuardType P.depth t then none else eqN P 100 t | _ => none

theorem eqT_run {P : Program} {t : TypeId} {ks : List Ck} {ρ F w} {cs ds : List AV} {us vs : List Value} {r : Bool} {ox oy : Operand} (hk : eqT P t = some ks) (hc : VRs ρ F w cs us) (hd : VRs ρ F w ds vs) (h : csEq ks cs ds = some r) :
    (do eqGuard .eql t ox oy (.agg us.toArray) (.agg vs.toArray); binOp .eql t (.agg us.toArray) (.agg vs.toArray)).run P w = .ok (.bool r) w ∧
    (do eqGuard .neq t ox oy (.agg us.toArray) (.agg vs.toArray); binOp .neq t (.agg us.toArray) (.agg vs.toArray)).run P w = .ok (.bool (!r)) w := by
  unfold eqT at hk
  split at hk
  · rename_i ha
    split at hk
    · cases hk
    · rename_i hg
      obtain ⟨h1, h2, h3⟩ := csEq_V hc hd h
      have hr : (Op.equalIn 10000 t (.agg us.toArray) (.agg vs.toArray)).run P w = .ok r w :=
        eqOk P 100 10000 w hk (by omega) ⟨by simpa [Value.cells] using h2, by simpa [Value.cells] using h3⟩ (fun _ => ⟨_, _, rfl, rfl⟩) (fun hc => by rw [ha] at hc; cases hc) (by simpa [Value.cells] using h1)
      constructor
      · rw [Sem.run_bind, run_eqGuard_agg _ _ _ _ _ _ _ (by simpa using hg)]
        simp only [Result.andThen, run_eql_struct, hr]
      · rw [Sem.run_bind, run_eqGuard_agg _ _ _ _ _ _ _ (by simpa using hg)]
        simp only [Result.andThen, run_neq_struct, hr]
  · cases hk
end Go.Proofs.YtjeafkodcmbabaaDoor.E

namespace Go.Proofs.YtjeafkodcmbabaaDoor.E
set_option linter.unusedVariables false
set_option linter.unusedSimpArgs false
/-! ## The operations that write nothing, together -/
def AV.cells : AV → List AV
  | .agg cs => cs
  | c => [c]

def splice (off : Nat) (ds cs : List AV) : List AV := match ds with | [d] => cs.set off d | _ => cs.take off ++ ds ++ cs.drop (off + ds.length)
def spliceV (off : Nat) (ds cs : List Value) : List Value := cs.take off ++ ds ++ cs.drop (off + ds.length)

theorem set_splice (cs : List Value) (off : Nat) (d : Value) (h : off < cs.length) : cs.set off d = spliceV off [d] cs := by
  simp only [spliceV, List.length_singleton]
  rw [List.set_eq_take_append_cons_drop, if_pos h]
  simp

theorem splice_rel {ρ F w} {off : Nat} {ds cs : List AV} {us vs : List Value} (hd : VRs ρ F w ds us) (hc : VRs ρ F w cs vs) (h : off + ds.length ≤ cs.length) (h0 : ds ≠ []) : VRs ρ F w (splice off ds cs) (spliceV off us vs) := by
  have hl := hd.len
  have hl2 := hc.len
  unfold splice
  split
  · rename_i d
    simp only [VRs] at hd
    obtain ⟨u, rest, rfl, hu, rfl⟩ := hd
    rw [← set_splice _ _ _ (by simp at h; omega)]
    exact hc.set _ hu
  · unfold spliceV
    rw [hl]
    exact ((hc.take off).append hd).append (hc.drop _)

theorem splice_len {off : Nat} {ds cs : List AV} (h : off + ds.length ≤ cs.length) : (splice off ds cs).length = cs.length := by
  unfold splice; split
  · simp
  · simp; omega
theorem spliceV_len {off : Nat} {ds cs : List Value} (h : off + ds.length ≤ cs.length) : (spliceV off ds cs).length = cs.length := by simp [spliceV]; omega

/-- parts put in their places -/
def aFill (place : Nat → Option (Nat × Nat)) (cells : List AV) : List (Nat × AV) → Option (List AV)
  | [] => some cells
  | (i, v) :: rest => match place i with
    | none => none
    | some (off, size) => if v.cells.length = size ∧ off + size ≤ cells.length ∧ 0 < size then aFill place (splice off v.cells cells) rest else none

theorem fold_set (vs : List Value) : ∀ (off j : Nat) (cells : Array Value), off + j + vs.length ≤ cells.size →
    ((vs.zipIdx j).foldl (fun cs (p : Value × Nat) => cs.setIfInBounds (off + p.2) p.1) cells).toList = spliceV (off + j) vs cells.toList := by
  induction vs with
  | nil => intro off j cells _; simp [spliceV]
  | cons v vs ih =>
    intro off j cells h
    simp only [List.length_cons] at h
    simp only [List.zipIdx_cons, List.foldl_cons]
    rw [ih off (j + 1) _ (by simp; omega)]
    simp only [spliceV, Array.toList_setIfInBounds, List.length_cons]
    have hlt : off + j < cells.toList.length := by simp; omega
    have e1 : (cells.toList.set (off + j) v).take (off + (j + 1)) = cells.toList.take (off + j) ++ [v] := by
      rw [show off + (j + 1) = (off + j) + 1 by omega, List.take_succ_eq_append_getElem (by simpa using hlt), List.getElem_set_self, List.take_set_of_le (Nat.le_refl _)]
    have e2 : (cells.toList.set (off + j) v).drop (off + (j + 1) + vs.length) = cells.toList.drop (off + j + (vs.length + 1)) := by
      rw [show off + (j + 1) + vs.length = off + j + (vs.length + 1) by omega, List.drop_set_of_lt (by omega)]
    rw [e1, e2]
    simp

theorem cells_rel {ρ F w} {v : AV} {x : Value} (h : VR ρ F w v x) (hv : v.cells ≠ [v] ∨ x.cells = #[x]) : VRs ρ F w v.cells x.cells.toList := by
  cases v <;> simp only [AV.cells] at hv ⊢
  case agg cs => simp only [VR] at h; obtain ⟨vs, rfl, h⟩ := h; simpa [Value.cells] using h
  all_goals
    rcases hv with hv | hv
    · exact absurd rfl hv
    · rw [hv]; exact ⟨x, [], rfl, h, by simp [VRs]⟩

/-- one cell's worth -/
def AV.one : AV → Bool
  | .val v => v.oneCell'
  | .ptr .. | .ref .. | .sl .. | .fptr .. | .clo .. | .ifc .. | .emp => true
  | _ => false

theorem one_rel {ρ F w} {v : AV} {x : Value} (h : VR ρ F w v x) (h1 : v.one = true) : x.oneCell' = true ∧ x.cells = #[x] ∧ v.cells = [v] := by
  have key : x.oneCell' = true → x.cells = #[x] := by intro hx; cases x <;> first | rfl | (simp [Value.oneCell'] at hx)
  have : x.oneCell' = true ∧ v.cells = [v] := by
    cases v <;> simp only [AV.one] at h1 <;> simp only [VR] at h <;> try (cases h1; done)
    case val => subst h; exact ⟨h1, rfl⟩
    case ptr => obtain ⟨r, m, _, rfl⟩ := h; exact ⟨rfl, rfl⟩
    case ref => rcases h with ⟨r, m, cap, _, rfl, _⟩ | ⟨_, base, rfl⟩ <;> exact ⟨rfl, rfl⟩
    case sl => obtain ⟨base, cap, vs, rfl, _⟩ := h; exact ⟨rfl, rfl⟩
    case fptr => obtain ⟨a, vs, rfl, _⟩ := h; exact ⟨rfl, rfl⟩
    case clo => obtain ⟨vs, rfl, _⟩ := h; exact ⟨rfl, rfl⟩
    case ifc => obtain ⟨u, rfl, _⟩ := h; exact ⟨rfl, rfl⟩
    case emp => obtain ⟨base, rfl⟩ := h; exact ⟨rfl, rfl⟩
  exact ⟨this.1, key this.1, this.2⟩

/-- cells that may stand in memory -/
def AV.fits (v : AV) : Bool := match v with | .agg cs => cs.all AV.one | v => v.one

theorem fits_rel {ρ F w} {v : AV} {x : Value} (h : VR ρ F w v x) (h1 : v.fits = true) : VRs ρ F w v.cells x.cells.toList ∧ (∀ u ∈ x.cells.toList, u.oneCell' = true) := by
  cases v with
  | agg cs =>
    simp only [AV.fits] at h1
    simp only [VR] at h
    obtain ⟨vs, rfl, h⟩ := h
    refine ⟨by simpa [Value.cells, AV.cells] using h, ?_⟩
    intro u hu
    simp only [Value.cells] at hu
    obtain ⟨i, hi, rfl⟩ := List.getElem_of_mem hu
    have hl := h.len
    have hic : i < cs.length := by have hi' : i < vs.length := hi; omega
    obtain ⟨u', hu', hr⟩ := h.get (i := i) (c := cs[i]) (by simp [hic])
    have h2 := List.all_eq_true.1 h1 cs[i] (List.getElem_mem hic)
    have e : vs.toArray.toList[i] = u' := by
      have := List.getElem?_eq_some_iff.1 hu'
      simpa using this.2
    rw [e]
    exact (one_rel hr h2).1
  | _ =>
    obtain ⟨a, b, c⟩ := one_rel h (by simpa [AV.fits] using h1)
    refine ⟨by rw [b, c]; exact ⟨x, [], rfl, h, by simp [VRs]⟩, by rw [b]; simpa using a⟩

theorem fill_rel {ρ F w} {place : Nat → Option (Nat × Nat)} : ∀ {ps : List (Nat × AV)} {qs : List (Nat × Value)} {cells out : List AV} {arr : Array Value},
    ps.length = qs.length → (∀ (i : Nat) (p : Nat × AV) (q : Nat × Value), ps[i]? = some p → qs[i]? = some q → p.1 = q.1 ∧ VR ρ F w p.2 q.2 ∧ VRs ρ F w p.2.cells q.2.cells.toList) → VRs ρ F w cells arr.toList → aFill place cells ps = some out →
    ∃ o, Instr.fill place arr qs = some o ∧ VRs ρ F w out o.toList
  | [], [], cells, out, arr, _, _, hc, h => by simp [aFill] at h; subst h; exact ⟨arr, rfl, hc⟩
  | [], _ :: _, _, _, _, hl, _, _, _ => by simp at hl
  | _ :: _, [], _, _, _, hl, _, _, _ => by simp at hl
  | (i, v) :: ps, (j, x) :: qs, cells, out, arr, hl, hp, hc, h => by
    obtain ⟨hij, hv, hvc⟩ := hp 0 (i, v) (j, x) (by simp) (by simp)
    simp only at hij hv hvc
    subst hij
    simp only [aFill] at h
    cases hpl : place i with
    | none => simp [hpl] at h
    | some os =>
      obtain ⟨off, size⟩ := os
      simp only [hpl] at h
      split at h
      · rename_i hcond
        obtain ⟨h1, h2, h3⟩ := hcond
        have hxl : x.cells.size = size := by have := hvc.len; simp at this; omega
        have hal : arr.size = cells.length := by have := hc.len; simpa using this
        have hfold : (x.cells.zipIdx.foldl (fun cs (p : Value × Nat) => cs.setIfInBounds (off + p.2) p.1) arr).toList = spliceV off x.cells.toList arr.toList := by
          have := fold_set x.cells.toList off 0 arr (by simp; omega)
          rw [← Array.foldl_toList, Array.toList_zipIdx]
          simpa using this
        have hs : VRs ρ F w (splice off v.cells cells) (x.cells.zipIdx.foldl (fun cs (p : Value × Nat) => cs.setIfInBounds (off + p.2) p.1) arr).toList := by
          rw [hfold]
          exact splice_rel hvc hc (by omega) (fun e => by rw [e] at h1; simp at h1; omega)
        obtain ⟨o, ho, hr⟩ := fill_rel (qs := qs) (by simpa using hl) (fun k p q hp' hq' => hp (k + 1) p q (by simpa using hp') (by simpa using hq')) hs h
        refine ⟨o, ?_, hr⟩
        simp only [Instr.fill, hpl]
        rw [if_neg (by simp only [Bool.or_eq_true, decide_eq_true_eq, ne_eq]; omega)]
        exact ho
      · cases h

def mapM? {α β : Type} (f : α → Option β) : List α → Option (List β)
  | [] => some []
  | a :: r => (f a).bind fun b => (mapM? f r).map (b :: ·)

/-- parts' values -/
def St.parts (st : St) (ps : List (Nat × Operand)) : Option (List (Nat × AV)) := mapM? (fun p => (st.eval p.2).map fun v => (p.1, v)) ps

theorem parts_rel {ρ F st a w} (hR : Rel ρ F st a w) : ∀ {ps : List (Nat × Operand)} {vs : List (Nat × AV)}, st.parts ps = some vs → (vs.all fun p => p.2.fits) = true →
    vs.length = ps.length ∧ ∀ (i : Nat) (p : Nat × AV) (q : Nat × Value), vs[i]? = some p → (ps.map fun (j, x) => (j, a.eval x))[i]? = some q → p.1 = q.1 ∧ VR ρ F w p.2 q.2 ∧ VRs ρ F w p.2.cells q.2.cells.toList ∧ (∀ u ∈ q.2.cells.toList, u.oneCell' = true)
  | [], vs, h, _ => by simp [St.parts, mapM?] at h; subst h; simp
  | (j, x) :: ps, vs, h, hf => by
    simp only [St.parts, mapM?, Option.bind_eq_some_iff, Option.map_eq_some_iff] at h
    obtain ⟨p, ⟨v, hv, rfl⟩, rest, hrest, rfl⟩ := h
    simp only [List.all_cons, Bool.and_eq_true] at hf
    obtain ⟨hl, hp⟩ := parts_rel hR (ps := ps) (vs := rest) hrest hf.2
    refine ⟨by simp [hl], ?_⟩
    intro i p q hi hq
    cases i with
    | zero =>
      simp only [List.getElem?_cons_zero, Option.some.injEq] at hi
      simp only [List.map_cons, List.getElem?_cons_zero, Option.some.injEq] at hq
      subst hi; subst hq
      have := hR.get hv
      exact ⟨rfl, this, (fits_rel this hf.1).1, (fits_rel this hf.1).2⟩
    | succ i => exact hp i p q (by simpa using hi) (by simpa using hq)

def places (P : Program) : List Field → Option (List (Nat × Nat))
  | [] => some []
  | f :: fs => (tSz P f.type).bind fun z => (places P fs).map ((f.offset, z) :: ·)

theorem run_places {P : Program} {w : World} : ∀ {fs : List Field} {ps : List (Nat × Nat)}, places P fs = some ps → (fs.mapM fun f => do pure (f.offset, ← sizeOf f.type) : Sem (List (Nat × Nat))).run P w = .ok ps w
  | [], ps, h => by simp [places] at h; subst h; simp
  | f :: fs, ps, h => by
    simp only [places, Option.bind_eq_some_iff, Option.map_eq_some_iff] at h
    obtain ⟨z, hz, qs, hqs, rfl⟩ := h
    simp only [List.mapM_cons, Sem.run_bind, run_tSz hz, Result.andThen, Sem.run_pure, run_places hqs]

def aBuild (P : Program) (t : TypeId) (parts : List (Nat × AV)) : Option AV :=
  match tZero P t, P.underlying t with
  | some z, some (.struct fs) => (places P fs.toList).bind fun ps => (aFill (ps[·]?) (z.map .val) parts).map .agg
  | some z, some (.array _ e) => (tSz P e).bind fun s => (aFill (fun i => some (i * s, s)) (z.map .val) parts).map .agg
  | _, _ => none

theorem vals_rel {ρ F w} : ∀ (vs : List Value), VRs ρ F w (vs.map .val) vs
  | [] => by simp [VRs]
  | v :: vs => ⟨v, vs, rfl, by simp [VR], vals_rel vs⟩

theorem run_tZero {P : Program} {t : TypeId} {w : World} {z : List Value} (h : tZero P t = some z) : ∃ v, (zeroValue t).run P w = .ok v w ∧ v.cells.toList = z := by
  simp only [tZero, Option.map_eq_some_iff, Option.bind_eq_some_iff] at h
  obtain ⟨v, ⟨i, hi, hv⟩, rfl⟩ := h
  exact ⟨v, by simp [zeroValue, typeInfo, hi, hv], rfl⟩

theorem aBuild_run {P : Program} {t : TypeId} {ρ F st a w} (hR : Rel ρ F st a w) {ps : Array (Nat × Operand)} {vs : List (Nat × AV)} {v : AV} (hp : st.parts ps.toList = some vs) (hf : (vs.all fun p => p.2.fits) = true) (h : aBuild P t vs = some v) :
    ∃ u, (Instr.build t (ps.map fun (i, x) => (i, a.eval x))).run P w = .ok u w ∧ VR ρ F w v u := by
  obtain ⟨hl, hpp⟩ := parts_rel hR hp hf
  unfold aBuild at h
  split at h
  · rename_i z fs hz hu
    simp only [Option.bind_eq_some_iff, Option.map_eq_some_iff] at h
    obtain ⟨pl, hpl, out, hout, rfl⟩ := h
    obtain ⟨zv, hzv, rfl⟩ := run_tZero (w := w) hz
    obtain ⟨o, ho, hr⟩ := fill_rel (ρ := ρ) (F := F) (w := w) (qs := ps.toList.map fun (i, x) => (i, a.eval x)) (arr := zv.cells) (by simp [hl]) (fun i p q h1 h2 => ⟨(hpp i p q h1 h2).1, (hpp i p q h1 h2).2.1, (hpp i p q h1 h2).2.2.1⟩) (vals_rel _) hout
    refine ⟨.agg o, ?_, _, by simp, hr⟩
    have hm : (fs.mapM fun f => do pure (f.offset, ← sizeOf f.type) : Sem (Array (Nat × Nat))).run P w = .ok pl.toArray w := by
      rw [← Array.toArray_toList (xs := fs), List.mapM_toArray, ]
      simp only [Functor.map, Sem.run_bind', run_places hpl, Result.andThen]
      rfl
    simp only [Instr.build, Sem.run_bind, hzv, Result.andThen, run_underlying hu, hm, Array.toList_map, ho, List.getElem?_toArray, Sem.run_pure]
  · rename_i z n e hz hu
    simp only [Option.bind_eq_some_iff, Option.map_eq_some_iff] at h
    obtain ⟨s, hs, out, hout, rfl⟩ := h
    obtain ⟨zv, hzv, rfl⟩ := run_tZero (w := w) hz
    obtain ⟨o, ho, hr⟩ := fill_rel (ρ := ρ) (F := F) (w := w) (qs := ps.toList.map fun (i, x) => (i, a.eval x)) (arr := zv.cells) (by simp [hl]) (fun i p q h1 h2 => ⟨(hpp i p q h1 h2).1, (hpp i p q h1 h2).2.1, (hpp i p q h1 h2).2.2.1⟩) (vals_rel _) hout
    refine ⟨.agg o, ?_, _, by simp, hr⟩
    simp only [Instr.build, Sem.run_bind, hzv, Result.andThen, run_underlying hu, run_tSz hs, Array.toList_map, ho, Sem.run_pure]
  · cases h
end Go.Proofs.YtjeafkodcmbabaaDoor.E

namespace Go.Proofs.YtjeafkodcmbabaaDoor.E
set_option linter.unusedVariables false
set_option linter.unusedSimpArgs false
def aUn : UnOp → AV → Option AV
  | .neg, .val (.int k n) => some (.val (.int k (k.wrap (0 - n))))
  | .xor, .val (.int k n) => some (.val (.int k (k.wrap (BitVec.ofInt k.bits (if k.signed then -1 else k.max) ^^^ BitVec.ofInt k.bits n).toNat)))
  | .not, .val (.bool b) => some (.val (.bool (!b)))
  | _, _ => none
def aConv (P : Program) (s d : TypeId) : AV → Option AV
  | .val (.int _ n) => match P.underlying s, tInt P d with | some _, some k => some (.val (.int k (k.wrap n))) | _, _ => none
  | _ => none
def aIface (P : Program) (t : TypeId) (c : AV) : Option AV := match tIface P t with
  | some false => match c with
    | .val v => some (.val (.iface t v))
    | .dead => none
    | c => some (.ifc t c)
  | _ => none
/-- an interface's value, and nil, or another of plain value -/
def isC (o : Operand) : Bool := match o with | .const _ => true | _ => false
def rI (P : Program) (t : TypeId) (ox oy : Operand) (x y : AV) : Option Bool := match tCls P t with
  | .iface => match x, y with
    | .val .nilIface, .val .nilIface => if isC ox || isC oy then some true else none
    | .val .nilIface, .val (.iface _ _) => some false
    | .val (.iface _ _), .val .nilIface => some false
    | .val .nilIface, .ifc _ _ => some false
    | .ifc _ _, .val .nilIface => some false
    | .val (.iface t1 (.int k a)), .val (.iface t2 (.int k' b)) => if t1 = t2 then (if (P.info? t1).any (·.comparable) ∧ (tInt P t1).isSome ∧ k = k' then some (a == b) else none) else some false
    | .ifc t1 _, .val (.iface t2 _) => if t1 = t2 then none else some false
    | .val (.iface t1 _), .ifc t2 _ => if t1 = t2 then none else some false
    | _, _ => none
  | _ => none
def aBinI (P : Program) (op : BinOp) (t : TypeId) (ox oy : Operand) (x y : AV) : Option AV :=
  match op with
  | .eql => (rI P t ox oy x y).map fun b => .val (.bool b)
  | .neq => (rI P t ox oy x y).map fun b => .val (.bool (!b))
  | _ => none
theorem rI_run {P : Program} {t : TypeId} {x y : AV} {ρ F w} {a b : Value} {ox oy : Operand} {r : Bool} (hx : VR ρ F w x a) (hy : VR ρ F w y b) (h : rI P t ox oy x y = some r) :
    (do eqGuard .eql t ox oy a b; binOp .eql t a b).run P w = .ok (.bool r) w ∧ (do eqGuard .neq t ox oy a b; binOp .neq t a b).run P w = .ok (.bool (!r)) w := by
  unfold rI at h
  split at h
  · rename_i hc
    have hu : ∃ ms, P.underlying t = some (.interface ms) := by
      unfold tCls at hc
      cases hq : P.underlying t with
      | none => simp [hq] at hc
      | some d => cases d <;> simp [hq] at hc; exact ⟨_, rfl⟩
    obtain ⟨ms, hu⟩ := hu
    have g0 : ∀ (op : BinOp) (t1 t2 : TypeId) (v1 v2 : Value), (eqGuard op t ox oy (.iface t1 v1) (.iface t2 v2)).run P w = .ok () w ∧ (eqGuard op t ox oy .nilIface (.iface t2 v2)).run P w = .ok () w ∧ (eqGuard op t ox oy (.iface t1 v1) .nilIface).run P w = .ok () w := by
      intro op t1 t2 v1 v2; refine ⟨?_, ?_, ?_⟩ <;> cases op <;> simp [eqGuard]
    have b0 : ∀ (a b : Value) (r : Bool), (Op.equal t a b).run P w = .ok r w → ((do pure (.bool (← Op.equal t a b)) : Sem Value)).run P w = .ok (.bool r) w ∧ ((do pure (.bool (!(← Op.equal t a b))) : Sem Value)).run P w = .ok (.bool (!r)) w := by
      intro a b r h; constructor <;> simp only [Sem.run_bind, h, Result.andThen, Sem.run_pure]
    have e0' : ∀ d t1 t2 v1 v2, t1 ≠ t2 → (Op.equalIn (d + 1) t (.iface t1 v1) (.iface t2 v2)).run P w = .ok false w := by
      intro d t1 t2 v1 v2 hne
      simp only [Op.equalIn, Sem.run_bind, run_underlying hu, Result.andThen]
      simp [hne]
    have e1' : ∀ d t1 v1, (Op.equalIn (d + 1) t (.iface t1 v1) .nilIface).run P w = .ok false w ∧ (Op.equalIn (d + 1) t .nilIface (.iface t1 v1)).run P w = .ok false w ∧ (Op.equalIn (d + 1) t .nilIface .nilIface).run P w = .ok true w := by
      intro d t1 v1; refine ⟨?_, ?_, ?_⟩ <;> simp [Op.equalIn, run_underlying hu]
    have e0 : ∀ t1 t2 v1 v2, t1 ≠ t2 → (Op.equal t (.iface t1 v1) (.iface t2 v2)).run P w = .ok false w := e0' 9999
    have e1 : ∀ t1 v1, (Op.equal t (.iface t1 v1) .nilIface).run P w = .ok false w ∧ (Op.equal t .nilIface (.iface t1 v1)).run P w = .ok false w ∧ (Op.equal t .nilIface .nilIface).run P w = .ok true w := e1' 9999
    split at h
    · simp only [VR] at hx hy; subst hx hy
      split at h
      · rename_i hcc
        cases h
        have hg : ∀ op, (eqGuard op t ox oy .nilIface .nilIface).run P w = .ok () w := by
          intro op
          cases op <;> simp [eqGuard] <;> (cases ox <;> cases oy <;> simp [isC] at hcc ⊢)
        have he : (Op.equal t .nilIface .nilIface).run P w = .ok true w := (e1 0 .nilFunc).2.2
        obtain ⟨h1, h2⟩ := b0 _ _ _ he
        exact ⟨by rw [Sem.run_bind, hg]; exact h1, by rw [Sem.run_bind, hg]; exact h2⟩
      · cases h
    · simp only [VR] at hx hy; subst hx hy; cases h
      obtain ⟨h1, h2⟩ := b0 _ _ _ (e1 _ _).2.1
      exact ⟨by rw [Sem.run_bind, (g0 _ 0 _ .nilFunc _).2.1]; exact h1, by rw [Sem.run_bind, (g0 _ 0 _ .nilFunc _).2.1]; exact h2⟩
    · simp only [VR] at hx hy; subst hx hy; cases h
      obtain ⟨h1, h2⟩ := b0 _ _ _ (e1 _ _).1
      exact ⟨by rw [Sem.run_bind, (g0 _ _ 0 _ .nilFunc).2.2]; exact h1, by rw [Sem.run_bind, (g0 _ _ 0 _ .nilFunc).2.2]; exact h2⟩
    · simp only [VR] at hx hy; obtain ⟨u, rfl, _⟩ := hy; subst hx; cases h
      obtain ⟨h1, h2⟩ := b0 _ _ _ (e1 _ _).2.1
      exact ⟨by rw [Sem.run_bind, (g0 _ 0 _ .nilFunc _).2.1]; exact h1, by rw [Sem.run_bind, (g0 _ 0 _ .nilFunc _).2.1]; exact h2⟩
    · simp only [VR] at hx hy; obtain ⟨u, rfl, _⟩ := hx; subst hy; cases h
      obtain ⟨h1, h2⟩ := b0 _ _ _ (e1 _ _).1
      exact ⟨by rw [Sem.run_bind, (g0 _ _ 0 _ .nilFunc).2.2]; exact h1, by rw [Sem.run_bind, (g0 _ _ 0 _ .nilFunc).2.2]; exact h2⟩
    · rename_i t1 k n t2 k' n'
      simp only [VR] at hx hy; subst hx hy
      split at h
      · rename_i htt
        subst htt
        split at h
        · rename_i hcc
          cases h
          obtain ⟨hc1, hc2, rfl⟩ := hcc
          have he : (Op.equal t (.iface t1 (.int k n)) (.iface t1 (.int k n'))).run P w = .ok (n == n') w := by
            cases hi : P.info? t1 with
            | none => simp [hi] at hc1
            | some i =>
              have hcm : i.comparable = true := by simpa [hi] using hc1
              have hui : ∃ k'', P.underlying t1 = some (.int k'') := by
                unfold tInt at hc2
                split at hc2
                · exact ⟨_, by assumption⟩
                · simp at hc2
              obtain ⟨k'', hui⟩ := hui
              have h9 : ∀ d, (Op.equalIn (d + 2) t (.iface t1 (.int k n)) (.iface t1 (.int k n'))).run P w = .ok (n == n') w := by
                intro d
                have h9 := run_equalIn_int (P := P) w d t1 k k'' n n' hui
                rw [Op.equalIn.eq_def]
                simp only [Sem.run_bind, run_underlying hu, Result.andThen, ne_eq, not_true_eq_false, if_false, typeInfo, run_program, hi, Sem.run_pure, hcm, Bool.not_true, Bool.false_eq_true, h9]
              exact h9 9998
          obtain ⟨h1, h2⟩ := b0 _ _ _ he
          exact ⟨by rw [Sem.run_bind, (g0 _ _ _ _ _).1]; exact h1, by rw [Sem.run_bind, (g0 _ _ _ _ _).1]; exact h2⟩
        · cases h
      · rename_i hne
        cases h
        obtain ⟨h1, h2⟩ := b0 _ _ _ (e0 _ _ (.int k n) (.int k' n') hne)
        exact ⟨by rw [Sem.run_bind, (g0 _ _ _ _ _).1]; exact h1, by rw [Sem.run_bind, (g0 _ _ _ _ _).1]; exact h2⟩
    · simp only [VR] at hx hy; obtain ⟨u, rfl, _⟩ := hx; subst hy
      split at h
      · cases h
      · rename_i hne
        cases h
        obtain ⟨h1, h2⟩ := b0 _ _ _ (e0 _ _ _ _ hne)
        exact ⟨by rw [Sem.run_bind, (g0 _ _ _ _ _).1]; exact h1, by rw [Sem.run_bind, (g0 _ _ _ _ _).1]; exact h2⟩
    · simp only [VR] at hx hy; obtain ⟨u, rfl, _⟩ := hy; subst hx
      split at h
      · cases h
      · rename_i hne
        cases h
        obtain ⟨h1, h2⟩ := b0 _ _ _ (e0 _ _ _ _ hne)
        exact ⟨by rw [Sem.run_bind, (g0 _ _ _ _ _).1]; exact h1, by rw [Sem.run_bind, (g0 _ _ _ _ _).1]; exact h2⟩
    · cases h
  · cases h

theorem aBinI_run {P : Program} {op : BinOp} {t : TypeId} {x y v : AV} {ρ F w} {a b : Value} {ox oy : Operand} (hx : VR ρ F w x a) (hy : VR ρ F w y b) (h : aBinI P op t ox oy x y = some v) :
    ∃ u, (do eqGuard op t ox oy a b; binOp op t a b).run P w = .ok u w ∧ VR ρ F w v u := by
  unfold aBinI at h
  split at h
  · simp only [Option.map_eq_some_iff] at h
    obtain ⟨r, hr, rfl⟩ := h
    exact ⟨_, (rI_run hx hy hr).1, rfl⟩
  · simp only [Option.map_eq_some_iff] at h
    obtain ⟨r, hr, rfl⟩ := h
    exact ⟨_, (rI_run hx hy hr).2, rfl⟩
  · cases h
def aBinA (P : Program) (op : BinOp) (t : TypeId) (x y : AV) : Option AV := match x, y with
  | .agg cs, .agg ds => match eqT P t, op with
    | some ks, .eql => (csEq ks cs ds).map fun b => .val (.bool b)
    | some ks, .neq => (csEq ks cs ds).map fun b => .val (.bool (!b))
    | _, _ => none
  | _, _ => none
def aBinAll (P : Program) (op : BinOp) (t : TypeId) (ox oy : Operand) (x y : AV) : Option AV :=
  match x, y with
  | .agg _, .agg _ => aBinA P op t x y
  | .val .nilIface, _ | .val (.iface _ _), _ | .ifc _ _, _ => aBinI P op t ox oy x y
  | _, _ => aBin P op t x y

def intOf? : AV → Option Int
  | .val (.int _ n) => some n
  | _ => none
/-- a bound of a slice -/
def bnd (d : Int) : Option AV → Option Int
  | none => some d
  | some v => intOf? v
def aSlice (P : Program) (t : TypeId) (h : List (Nat × Blk)) (x : AV) (lo hi mx : Option AV) : Option AV :=
  match mx with
  | some m => match tSlice P t, intOf? m, hi.bind intOf?, bnd 0 lo with
    | some e, some m, some b, some a => if m = 0 ∧ b = 0 ∧ a = 0 ∧ (tSz P e).isSome then (match x with
      | .ref .. | .sl .. | .emp => some .emp
      | .val (.slice none n c) => if n = 0 ∧ c = 0 then some .emp else none
      | _ => none) else none
    | _, _, _, _ => none
  | none =>
    match tSlice P t with
    | some e => match tSz P e, x with
      | some z, .ref l off n z' => match bnd 0 lo, bnd n hi with
        | some a, some b => if z' = z ∧ 0 ≤ a ∧ a ≤ b ∧ b ≤ n then some (.ref l (off + a.toNat * z) (b.toNat - a.toNat) z) else none
        | _, _ => none
      | some z, .sl n cs => match bnd 0 lo, bnd n hi with
        | some a, some b => if 0 ≤ a ∧ a ≤ b ∧ b ≤ n then some (.sl (b.toNat - a.toNat) ((cs.drop (a.toNat * z)).take ((b.toNat - a.toNat) * z))) else none
        | _, _ => none
      | some z, .emp => match bnd 0 lo, bnd 0 hi with
        | some a, some b => if a = 0 ∧ b = 0 then some .emp else none
        | _, _ => none
      | some z, .val (.slice none n c) => match bnd 0 lo, bnd 0 hi with
        | some a, some b => if a = 0 ∧ b = 0 ∧ n = 0 ∧ c = 0 then some .emp else none
        | _, _ => none
      | _, _ => none
    | none => match tArray P t with
      | some (n, e) => match tSz P e, x with
        | some z, .ptr l off => match bnd 0 lo, bnd n hi, get? l h with
          | some a, some b, some B => if 0 ≤ a ∧ a ≤ b ∧ b ≤ n ∧ n ≤ maxLen ∧ off + n * z ≤ B.cs.length ∧ B.cs ≠ [] then some (.ref l (off + a.toNat * z) (b.toNat - a.toNat) z) else none
          | _, _, _ => none
        | some z, .fptr cs => match bnd 0 lo, bnd n hi with
          | some a, some b => if 0 ≤ a ∧ a ≤ b ∧ b ≤ n ∧ n ≤ maxLen then some (.sl (b.toNat - a.toNat) ((cs.drop (a.toNat * z)).take ((b.toNat - a.toNat) * z))) else none
          | _, _ => none
        | _, _ => none
      | none => match tCls P t, x with
        | .string, .val (.string s) => match bnd 0 lo, bnd s.size hi with
          | some a, some b => if 0 ≤ a ∧ a ≤ b ∧ b ≤ s.size then some (.val (.string (s.extract a.toNat b.toNat))) else none
          | _, _ => none
        | _, _ => none
def aFieldAddr (P : Program) (s f : Nat) (x : AV) : Option AV := match tField P s f with
  | some (o, ft) => match tSz P ft with
    | some (_ + 1) => match x with
      | .ptr l off => some (.ptr l (off + o))
      | .fptr cs => some (.fptr (cs.drop o))
      | _ => none
    | _ => none
  | none => none
def aIndexAddr (P : Program) (t : TypeId) (x ix : AV) : Option AV := match intOf? ix with
  | none => none
  | some i => match tSlice P t with
    | some e => match tSz P e, x with
      | some z, .ref l off n z' => if z' = z ∧ 0 ≤ i ∧ i < n then some (.ptr l (off + i.toNat * z)) else none
      | some z, .sl n cs => if 0 ≤ i ∧ i < n then some (.fptr (cs.drop (i.toNat * z))) else none
      | _, _ => none
    | none => match tArray P t with
      | some (n, e) => match tSz P e, x with
        | some z, .ptr l off => if 0 ≤ i ∧ i < n then some (.ptr l (off + i.toNat * z)) else none
        | some z, .fptr cs => if 0 ≤ i ∧ i < n then some (.fptr (cs.drop (i.toNat * z))) else none
        | _, _ => none
      | none => none
def aField (P : Program) (s f : Nat) : AV → Option AV
  | .agg cs => match tField P s f with
    | some (o, ft) => part P ft (cs.drop o)
    | none => none
  | _ => none
def aIndex (P : Program) (t : TypeId) (x ix : AV) : Option AV := match intOf? ix with
  | none => none
  | some i => match tArray P t, x with
    | some (n, e), .agg cs => match tSz P e with
      | some z => if 0 ≤ i ∧ i < n then part P e (cs.drop (i.toNat * z)) else none
      | none => none
    | none, .val (.string s) => match tCls P t with
      | .string => if 0 ≤ i then (s.data[i.toNat]?).map fun b => .val (.int .u8 b.toNat) else none
      | _ => none
    | _, _ => none
def aLen (P : Program) (t : TypeId) (x : AV) : Option AV := match P.underlying t, x with
  | some (.slice _), .ref _ _ n _ | some (.slice _), .sl n _ => some (.val (.int .i64 n))
  | some (.slice _), .emp => some (.val (.int .i64 0))
  | some (.slice _), .val (.slice _ n _) => some (.val (.int .i64 n))
  | some .string, .val (.string s) => some (.val (.int .i64 s.size))
  | some (.array n _), _ => some (.val (.int .i64 n))
  | _, _ => none
def aMinMax (mx : Bool) : AV → AV → Option AV
  | .val (.int k x), .val (.int k' y) => some (.val (.int k (if mx then (if y > x then y else x) else (if y < x then y else x))))
  | _, _ => none

theorem aBinAll_run {P : Program} {op : BinOp} {t : TypeId} {x y v : AV} {ρ F w} {a b : Value} {ox oy : Operand} (hx : VR ρ F w x a) (hy : VR ρ F w y b) (h : aBinAll P op t ox oy x y = some v) :
    ∃ u, (do eqGuard op t ox oy a b; binOp op t a b).run P w = .ok u w ∧ VR ρ F w v u := by
  unfold aBinAll at h
  split at h
  · rename_i cs ds
    simp only [aBinA] at h
    simp only [VR] at hx hy
    obtain ⟨us, rfl, hx⟩ := hx
    obtain ⟨vs, rfl, hy⟩ := hy
    split at h
    · rename_i ks hk
      simp only [Option.map_eq_some_iff] at h
      obtain ⟨r, hr, rfl⟩ := h
      exact ⟨_, (eqT_run hk hx hy hr).1, rfl⟩
    · rename_i ks hk
      simp only [Option.map_eq_some_iff] at h
      obtain ⟨r, hr, rfl⟩ := h
      exact ⟨_, (eqT_run hk hx hy hr).2, rfl⟩
    · cases h
  · exact aBinI_run hx hy h
  · exact aBinI_run hx hy h
  · exact aBinI_run hx hy h
  · exact aBin_run hx hy h
end Go.Proofs.YtjeafkodcmbabaaDoor.E

namespace Go.Proofs.YtjeafkodcmbabaaDoor.E
set_option linter.unusedVariables false
set_option linter.unusedSimpArgs false

theorem run_und {P : Program} {t : TypeId} {d : TypeDesc} {w : World} (h : P.underlying t = some d) : (underlying t).run P w = .ok d w := run_underlying h w

theorem tSlice_u {P : Program} {t e : TypeId} (h : tSlice P t = some e) : P.underlying t = some (.slice e) := by
  unfold tSlice at h; split at h
  · cases h; assumption
  · cases h
theorem tArray_u {P : Program} {t e : TypeId} {n : Nat} (h : tArray P t = some (n, e)) : P.underlying t = some (.array n e) := by
  unfold tArray at h; split at h
  · cases h; assumption
  · cases h
theorem tField_u {P : Program} {s f off ft : Nat} (h : tField P s f = some (off, ft)) : ∃ fs x, P.underlying s = some (.struct fs) ∧ fs[f]? = some x ∧ x.offset = off ∧ x.type = ft := by
  unfold tField at h; split at h
  · simp only [Option.map_eq_some_iff, Prod.mk.injEq] at h
    obtain ⟨x, hx, h1, h2⟩ := h
    exact ⟨_, x, by assumption, hx, h1, h2⟩
  · cases h

theorem intOf_rel {ρ F w} {x : AV} {n : Int} {v : Value} (h : intOf? x = some n) (hv : VR ρ F w x v) : ∃ k, v = .int k n := by
  unfold intOf? at h; split at h
  · cases h; simp only [VR] at hv; exact ⟨_, hv⟩
  · cases h

theorem sp_none {a : Addr} (h : a.spot = none) : a = ⟨a.block, a.off, none⟩ := by cases a; simp at h; subst h; rfl

theorem aFieldAddr_run {P : Program} {s f : Nat} {x v : AV} {ρ F w} {y : Value} (hx : VR ρ F w x y) (h : aFieldAddr P s f x = some v) : ∃ u, (Instr.fieldAt s y f).run P w = .ok u w ∧ VR ρ F w v u := by
  unfold aFieldAddr at h
  split at h
  · rename_i o ft hf
    obtain ⟨fs, fd, hu, hfd, rfl, rfl⟩ := tField_u hf
    split at h
    · rename_i z hz
      have hpl : ∀ a, (fieldPlace a fd).run P w = .ok (a.add fd.offset) w := by
        intro a; simp [fieldPlace, run_tSz hz]
      split at h
      · cases h
        simp only [VR] at hx
        obtain ⟨r, m, hl, rfl⟩ := hx
        exact ⟨.pointer (some ⟨r, _, none⟩), by simp [Instr.fieldAt, run_und hu, hfd, Instr.sureAddr, hpl, add_none], r, m, hl, rfl⟩
      · cases h
        simp only [VR] at hx
        obtain ⟨a, vs, rfl, hs, hv, hfz⟩ := hx
        rw [sp_none hs] at hfz ⊢
        refine ⟨.pointer (some ⟨a.block, a.off + fd.offset, none⟩), by simp [Instr.fieldAt, run_und hu, hfd, Instr.sureAddr, hpl, add_none], ?_⟩
        simp only [VR]
        exact ⟨_, vs.drop fd.offset, rfl, rfl, hv.drop _, hfz.drop _⟩
      · cases h
    · cases h
  · cases h

theorem aIndexAddr_run {P : Program} {t : TypeId} {x ix v : AV} {ρ F w} {y i : Value} (hx : VR ρ F w x y) (hi : VR ρ F w ix i) (h : aIndexAddr P t x ix = some v) : ∃ u, (Instr.indexAt t y i).run P w = .ok u w ∧ VR ρ F w v u := by
  unfold aIndexAddr at h
  split at h
  · cases h
  · rename_i n hn
    obtain ⟨k, rfl⟩ := intOf_rel hn hi
    split at h
    · rename_i e he
      have hu := tSlice_u he
      split at h
      · rename_i z l off len z' hz
        split at h
        · rename_i hc
          cases h
          obtain ⟨rfl, h0, h1⟩ := hc
          simp only [VR] at hx
          rcases hx with ⟨r, m, cap, hl, rfl, _⟩ | ⟨h2, _⟩
          · exact ⟨.pointer (some ⟨r, _, none⟩), by simp [Instr.indexAt, run_und hu, asIntOf, h0, h1, run_tSz hz, add_none], r, m, hl, rfl⟩
          · omega
        · cases h
      · rename_i z len cs hz
        split at h
        · rename_i hc
          cases h
          obtain ⟨h0, h1⟩ := hc
          simp only [VR] at hx
          obtain ⟨base, cap, vs, rfl, hle, hm, hv, hf, hb, hs⟩ := hx
          cases base with
          | none => have := hb rfl; omega
          | some a =>
            have hs := hs a rfl (by omega)
            rw [sp_none hs] at hf ⊢
            refine ⟨.pointer (some ⟨a.block, a.off + n.toNat * z, none⟩), by simp [Instr.indexAt, run_und hu, asIntOf, h0, h1, run_tSz hz, add_none], ?_⟩
            simp only [VR]
            exact ⟨_, _, rfl, rfl, hv.drop _, hf.drop _⟩
        · cases h
      · cases h
    · split at h
      · rename_i m e he
        have hu := tArray_u he
        split at h
        · rename_i z l off hz
          split at h
          · rename_i hc
            cases h
            obtain ⟨h0, h1⟩ := hc
            simp only [VR] at hx
            obtain ⟨r, m', hl, rfl⟩ := hx
            exact ⟨.pointer (some ⟨r, _, none⟩), by simp [Instr.indexAt, run_und hu, asIntOf, h0, h1, run_tSz hz, add_none, Instr.sureAddr], r, m', hl, rfl⟩
          · cases h
        · rename_i z cs hz
          split at h
          · rename_i hc
            cases h
            obtain ⟨h0, h1⟩ := hc
            simp only [VR] at hx
            obtain ⟨a, vs, rfl, hs, hv, hf⟩ := hx
            rw [sp_none hs] at hf ⊢
            refine ⟨.pointer (some ⟨a.block, a.off + n.toNat * z, none⟩), by simp [Instr.indexAt, run_und hu, asIntOf, h0, h1, run_tSz hz, add_none, Instr.sureAddr], ?_⟩
            simp only [VR]
            exact ⟨_, _, rfl, rfl, hv.drop _, hf.drop _⟩
          · cases h
        · cases h
      · cases h

/-- a part of a value -/
theorem part_val {P : Program} {t : TypeId} {ρ F w} {cs : List AV} {vs : List Value} {v : AV} {off : Nat} (hv : VRs ρ F w cs vs) (h : part P t (cs.drop off) = some v) :
    ∃ u, (Go.part t vs.toArray off).run P w = .ok u w ∧ VR ρ F w v u := by
  unfold part at h
  split at h
  · rename_i z ha hz
    simp only [takeAgg] at h
    split at h
    · cases h
      refine ⟨.agg (vs.toArray.extract off (off + z)), by simp [Go.part, run_tAgg ha, run_tSz hz], ?_⟩
      simp only [VR]
      refine ⟨(vs.drop off).take z, ?_, (hv.drop off).take z⟩
      congr 1
      apply Array.toList_inj.1
      rw [extract_list]
    · cases h
  · rename_i z ha hz
    rw [List.head?_drop] at h
    obtain ⟨u, hu, hr⟩ := hv.get h
    exact ⟨u, by simp [Go.part, run_tAgg ha, hu], hr⟩
  · cases h

theorem aField_run {P : Program} {s f : Nat} {x v : AV} {ρ F w} {y : Value} (hx : VR ρ F w x y) (h : aField P s f x = some v) : ∃ u, (Instr.field s y f).run P w = .ok u w ∧ VR ρ F w v u := by
  unfold aField at h
  split at h
  · rename_i cs
    split at h
    · rename_i o ft hf
      obtain ⟨fs, fd, hu, hfd, rfl, rfl⟩ := tField_u hf
      simp only [VR] at hx
      obtain ⟨vs, rfl, hv⟩ := hx
      obtain ⟨u, hu1, hr⟩ := part_val hv h
      exact ⟨u, by simp [Instr.field, run_und hu, hfd, asAgg, hu1], hr⟩
    · cases h
  · cases h

theorem aIndex_run {P : Program} {t : TypeId} {x ix v : AV} {ρ F w} {y i : Value} (hx : VR ρ F w x y) (hi : VR ρ F w ix i) (h : aIndex P t x ix = some v) : ∃ u, (Instr.index t y i).run P w = .ok u w ∧ VR ρ F w v u := by
  unfold aIndex at h
  split at h
  · cases h
  · rename_i n hn
    obtain ⟨k, rfl⟩ := intOf_rel hn hi
    split at h
    · rename_i m e cs he
      have hu := tArray_u he
      split at h
      · rename_i z hz
        split at h
        · rename_i hc
          simp only [VR] at hx
          obtain ⟨vs, rfl, hv⟩ := hx
          obtain ⟨u, hu1, hr⟩ := part_val hv h
          exact ⟨u, by simp [Instr.index, run_und hu, asIntOf, hc, run_tSz hz, hu1], hr⟩
        · cases h
      · cases h
    · rename_i s he
      split at h
      · rename_i hcl
        have hu : P.underlying t = some .string := by
          unfold tCls at hcl
          cases hq : P.underlying t with
          | none => simp [hq] at hcl
          | some d => cases d <;> simp [hq] at hcl; rfl
        split at h
        · rename_i h0
          simp only [VR] at hx
          subst hx
          simp only [Option.map_eq_some_iff] at h
          obtain ⟨b, hb, rfl⟩ := h
          have hb' : s[n.toNat]? = some b := by
            obtain ⟨hlt, rfl⟩ := Array.getElem?_eq_some_iff.1 hb
            rw [getElem?_pos s n.toNat hlt]
            rfl
          exact ⟨_, by simp [Instr.index, run_und hu, asIntOf, h0, hb'], rfl⟩
        · cases h
      · cases h
    · cases h

theorem aLen_run {P : Program} {t : TypeId} {x v : AV} {ρ F w} {y : Value} {ty : TypeId} (hx : VR ρ F w x y) (h : aLen P t x = some v) : ∃ u, (Builtin.len_ #[t] ty #[y]).run P w = .ok u w ∧ VR ρ F w v u := by
  unfold aLen at h
  split at h
  · rename_i hu
    cases h
    simp only [VR] at hx
    rcases hx with ⟨r, m, cap, hl, rfl, _⟩ | ⟨h2, base, rfl⟩
    · exact ⟨_, by simp [Builtin.len_, run_und hu, goInt]; try rfl, by first | rfl | (subst_vars; rfl)⟩
    · subst h2; exact ⟨_, by simp [Builtin.len_, run_und hu, goInt]; try rfl, by first | rfl | (subst_vars; rfl)⟩
  · rename_i hu
    cases h
    simp only [VR] at hx
    obtain ⟨base, cap, vs, rfl, _⟩ := hx
    exact ⟨_, by simp [Builtin.len_, run_und hu, goInt]; try rfl, by first | rfl | (subst_vars; rfl)⟩
  · rename_i hu
    cases h
    simp only [VR] at hx
    obtain ⟨base, rfl⟩ := hx
    exact ⟨_, by simp [Builtin.len_, run_und hu, goInt]; try rfl, by first | rfl | (subst_vars; rfl)⟩
  · rename_i hu
    cases h
    simp only [VR] at hx
    subst hx
    exact ⟨_, by simp [Builtin.len_, run_und hu, goInt]; try rfl, by first | rfl | (subst_vars; rfl)⟩
  · rename_i hu
    cases h
    simp only [VR] at hx
    subst hx
    exact ⟨_, by simp [Builtin.len_, run_und hu, goInt]; try rfl, by first | rfl | (subst_vars; rfl)⟩
  · rename_i n e hu
    cases h
    exact ⟨_, by simp [Builtin.len_, run_und hu, goInt]; try rfl, by first | rfl | (subst_vars; rfl)⟩
  · cases h

/-- the bounds of a slice, run -/
theorem bounds_run {P : Program} {w : World} {isS : Bool} {len cap : Nat} {lo hi : Option Value} {a b : Int} (ha : (lo = none ∧ a = 0) ∨ ∃ k, lo = some (.int k a)) (hb : (hi = none ∧ b = len) ∨ ∃ k, hi = some (.int k b))
    (h0 : 0 ≤ a) (h1 : a ≤ b) (h2 : b ≤ cap) (h3 : len ≤ cap) : (Instr.sliceBounds isS len cap lo hi none).run P w = .ok (a.toNat, b.toNat, cap) w := by
  have hbn : (b.toNat : Int) = b := Int.toNat_of_nonneg (by omega)
  have hb0 : 0 ≤ b := Int.le_trans h0 h1
  rcases ha with ⟨rfl, rfl⟩ | ⟨k, rfl⟩ <;> rcases hb with ⟨rfl, rfl⟩ | ⟨k', rfl⟩ <;> simp [Instr.sliceBounds, run_sliceBound_if, Result.andThen, h0, h1, h2, hbn, hb0]

theorem bnd_rel {ρ F w} {d n : Int} {x : Option AV} {v : Option Value} (hv : (x = none ∧ v = none) ∨ ∃ c u, x = some c ∧ v = some u ∧ VR ρ F w c u) (h : bnd d x = some n) : (v = none ∧ n = d) ∨ ∃ k, v = some (.int k n) := by
  rcases hv with ⟨rfl, rfl⟩ | ⟨c, u, rfl, rfl, hr⟩
  · simp [bnd] at h; exact .inl ⟨rfl, h.symm⟩
  · obtain ⟨k, rfl⟩ := intOf_rel h hr; exact .inr ⟨k, rfl⟩

def OR (ρ : Rho) (F : Nat → Prop) (w : World) (x : Option AV) (v : Option Value) : Prop := (x = none ∧ v = none) ∨ ∃ c u, x = some c ∧ v = some u ∧ VR ρ F w c u

theorem aSlice_run {P : Program} {t : TypeId} {h : List (Nat × Blk)} {x v : AV} {lo hi mx : Option AV} {ρ F w} {y : Value} {l' h' m' : Option Value} (hr : HRel ρ F h w) (hx : VR ρ F w x y) (hl : OR ρ F w lo l') (hh : OR ρ F w hi h') (hm : OR ρ F w mx m')
    (hs : aSlice P t h x lo hi mx = some v) : ∃ u, (Instr.sliceAt t y l' h' m').run P w = .ok u w ∧ VR ρ F w v u := by
  unfold aSlice at hs
  split at hs
  · -- with a bound of the capacity
    rename_i m
    rcases hm with ⟨hm, _⟩ | ⟨c, mv, hm, rfl, hmr⟩
    · cases hm
    cases hm
    split at hs
    · rename_i e mi bi ai he hmi hbi hai
      have hu := tSlice_u he
      split at hs
      · rename_i hc
        obtain ⟨rfl, rfl, rfl, hz⟩ := hc
        obtain ⟨z, hz⟩ := Option.isSome_iff_exists.1 hz
        obtain ⟨km, rfl⟩ := intOf_rel hmi hmr
        simp only [Option.bind_eq_some_iff] at hbi
        obtain ⟨hv, rfl, hbi⟩ := hbi
        rcases hh with ⟨hh, _⟩ | ⟨c, hvv, hh, rfl, hhr⟩
        · cases hh
        cases hh
        obtain ⟨kh, rfl⟩ := intOf_rel hbi hhr
        have fin : ∀ base n cap, ∃ u, (Instr.sliceAt t (.slice base n cap) l' (some (.int kh 0)) (some (.int km 0))).run P w = .ok u w ∧ VR ρ F w .emp u := by
          intro base n cap
          refine ⟨.slice base 0 0, ?_, ?_⟩
          · rcases bnd_rel hl hai with ⟨rfl, _⟩ | ⟨kl, rfl⟩ <;> simp [Instr.sliceAt, run_und hu, Instr.slice, Instr.sliceBounds, run_sliceBound_if, Result.andThen, run_tSz hz]
          · simp only [VR]; exact ⟨base, rfl⟩
        split at hs
        · cases hs
          simp only [VR] at hx
          rcases hx with ⟨r, m, cap, _, rfl, _⟩ | ⟨_, base, rfl⟩
          · exact fin _ _ _
          · exact fin _ _ _
        · cases hs
          simp only [VR] at hx
          obtain ⟨base, cap, vs, rfl, _, _, _, _, _, hb⟩ := hx
          exact fin _ _ _
        · cases hs
          simp only [VR] at hx
          obtain ⟨base, rfl⟩ := hx
          exact fin _ _ _
        · split at hs
          · cases hs
            simp only [VR] at hx
            subst hx
            exact fin _ _ _
          · cases hs
        · cases hs
      · cases hs
    · cases hs
  · rcases hm with ⟨_, rfl⟩ | ⟨c, mv, hm, _⟩
    case inr => cases hm
    split at hs
    · rename_i e he
      have hu := tSlice_u he
      split at hs
      · rename_i z l off n z' hz
        split at hs
        · rename_i a b ha hb
          split at hs
          · rename_i hc
            cases hs
            obtain ⟨rfl, h0, h1, h2⟩ := hc
            simp only [VR] at hx
            rcases hx with ⟨r, m, cap, hlr, rfl, h3, h4, h5⟩ | ⟨rfl, base, rfl⟩
            · have hbr := bounds_run (P := P) (w := w) (isS := true) (cap := cap) (bnd_rel hl ha) (bnd_rel hh hb) h0 h1 (by omega) (by omega)
              refine ⟨_, by simp only [Instr.sliceAt, Sem.run_bind, run_und hu, Result.andThen, Instr.slice, hbr, run_tSz hz]; rfl, ?_⟩
              simp only [VR]
              by_cases hcl : cap = a.toNat
              · refine .inr ⟨by omega, some ⟨r, off, none⟩, ?_⟩
                rw [if_pos hcl]; congr 1 <;> omega
              · refine .inl ⟨r, m, cap - a.toNat, hlr, ?_, by omega, ?_, by omega⟩
                · rw [if_neg hcl]; simp only [Option.map_some, add_none]
                · have : a.toNat * z' + (cap - a.toNat) * z' = cap * z' := by rw [← Nat.add_mul]; congr 1; omega
                  omega
            · have hbr := bounds_run (P := P) (w := w) (isS := true) (cap := 0) (bnd_rel hl ha) (bnd_rel hh hb) h0 h1 (by omega) (by omega)
              refine ⟨_, by simp only [Instr.sliceAt, Sem.run_bind, run_und hu, Result.andThen, Instr.slice, hbr, run_tSz hz]; rfl, ?_⟩
              simp only [VR]
              refine .inr ⟨by omega, base, ?_⟩
              rw [if_pos (by omega)]; congr 1 <;> omega
          · cases hs
        · cases hs
      · rename_i z n cs hz
        split at hs
        · rename_i a b ha hb
          split at hs
          · rename_i hc
            cases hs
            obtain ⟨h0, h1, h2⟩ := hc
            simp only [VR] at hx
            obtain ⟨base, cap, vs, rfl, h3, h4, hv, hf, hbn, hsp⟩ := hx
            have hbr := bounds_run (P := P) (w := w) (isS := true) (cap := cap) (bnd_rel hl ha) (bnd_rel hh hb) h0 h1 (by omega) (by omega)
            refine ⟨_, by simp only [Instr.sliceAt, Sem.run_bind, run_und hu, Result.andThen, Instr.slice, hbr, run_tSz hz]; rfl, ?_⟩
            simp only [VR]
            refine ⟨_, _, (vs.drop (a.toNat * z)).take ((b.toNat - a.toNat) * z), rfl, by omega, by omega, (hv.drop _).take _, ?_, ?_, ?_⟩
            · split
              · have : b.toNat - a.toNat = 0 := by omega
                rw [this]; exact .inl (by simp)
              · by_cases hba : b.toNat - a.toNat = 0
                · rw [hba]; exact .inl (by simp)
                · cases base with
                  | none => have := hbn rfl; exfalso; omega
                  | some ad =>
                    have hsp := hsp ad rfl (by omega)
                    rw [sp_none hsp] at hf ⊢
                    simp only [Option.map_some, add_none]
                    exact (hf.drop _).take _
            · intro h
              split at h
              · omega
              · cases base with
                | none => have := hbn rfl; omega
                | some ad => cases h
            · intro ad h hpos
              split at h
              · exact hsp ad h (by omega)
              · cases base with
                | none => cases h
                | some a0 =>
                  have hsp := hsp a0 rfl (by omega)
                  rw [sp_none hsp] at h
                  simp only [Option.map_some, add_none, Option.some.injEq] at h
                  rw [← h]
          · cases hs
        · cases hs
      · rename_i z hz
        split at hs
        · rename_i a b ha hb
          split at hs
          · rename_i hc
            cases hs
            obtain ⟨rfl, rfl⟩ := hc
            simp only [VR] at hx
            obtain ⟨base, rfl⟩ := hx
            have hbr := bounds_run (P := P) (w := w) (isS := true) (cap := 0) (len := 0) (bnd_rel hl ha) (bnd_rel hh hb) (by omega) (by omega) (by omega) (by omega)
            refine ⟨_, by simp only [Instr.sliceAt, Sem.run_bind, run_und hu, Result.andThen, Instr.slice, hbr, run_tSz hz]; rfl, ?_⟩
            simp only [VR]
            exact ⟨base, by simp⟩
          · cases hs
        · cases hs
      · rename_i z n c hz
        split at hs
        · rename_i a b ha hb
          split at hs
          · rename_i hc
            cases hs
            obtain ⟨rfl, rfl, rfl, rfl⟩ := hc
            simp only [VR] at hx
            subst hx
            have hbr := bounds_run (P := P) (w := w) (isS := true) (cap := 0) (len := 0) (bnd_rel hl ha) (bnd_rel hh hb) (by omega) (by omega) (by omega) (by omega)
            refine ⟨_, by simp only [Instr.sliceAt, Sem.run_bind, run_und hu, Result.andThen, Instr.slice, hbr, run_tSz hz]; rfl, ?_⟩
            simp only [VR]
            exact ⟨none, by simp⟩
          · cases hs
        · cases hs
      · cases hs
    · split at hs
      · rename_i n e he
        have hu := tArray_u he
        split at hs
        · rename_i z l off hz
          split at hs
          · rename_i a b B ha hb hB
            split at hs
            · rename_i hc
              cases hs
              obtain ⟨h0, h1, h2, h3, h4, h5⟩ := hc
              simp only [VR] at hx
              obtain ⟨r, m, hlr, rfl⟩ := hx
              have hbr := bounds_run (P := P) (w := w) (isS := false) (cap := n) (len := n) (bnd_rel hl ha) (bnd_rel hh hb) h0 h1 (by omega) (by omega)
              obtain ⟨c, _, hcs, vs, hv, _, hle, _⟩ := hr.cells hB hlr
              have hvl := hv.len
              refine ⟨_, by simp only [Instr.sliceAt, Sem.run_bind, run_und hu, Result.andThen, Instr.sureAddr, Sem.run_pure, hbr, run_tSz hz]; rfl, ?_⟩
              simp only [VR]
              by_cases hcl : n = a.toNat
              · refine .inr ⟨by omega, some ⟨r, off, none⟩, ?_⟩
                rw [if_pos hcl]; congr 1 <;> omega
              · refine .inl ⟨r, m, n - a.toNat, hlr, ?_, by omega, ?_, by omega⟩
                · rw [if_neg hcl]; simp only [add_none]
                · have : a.toNat * z + (n - a.toNat) * z = n * z := by rw [← Nat.add_mul]; congr 1; omega
                  omega
            · cases hs
          · cases hs
        · rename_i z cs hz
          split at hs
          · rename_i a b ha hb
            split at hs
            · rename_i hc
              cases hs
              obtain ⟨h0, h1, h2, h3⟩ := hc
              simp only [VR] at hx
              obtain ⟨ad, vs, rfl, hsp, hv, hf⟩ := hx
              have hbr := bounds_run (P := P) (w := w) (isS := false) (cap := n) (len := n) (bnd_rel hl ha) (bnd_rel hh hb) h0 h1 (by omega) (by omega)
              refine ⟨_, by simp only [Instr.sliceAt, Sem.run_bind, run_und hu, Result.andThen, Instr.sureAddr, Sem.run_pure, hbr, run_tSz hz]; rfl, ?_⟩
              simp only [VR]
              refine ⟨_, _, (vs.drop (a.toNat * z)).take ((b.toNat - a.toNat) * z), rfl, by omega, by omega, (hv.drop _).take _, ?_, by simp, ?_⟩
              · split
                · have : b.toNat - a.toNat = 0 := by omega
                  rw [this]; exact .inl (by simp)
                · rw [sp_none hsp] at hf ⊢
                  simp only [add_none]
                  exact (hf.drop _).take _
              · intro ad' h _
                split at h
                · cases h; exact hsp
                · rw [sp_none hsp] at h
                  simp only [add_none, Option.some.injEq] at h
                  rw [← h]
            · cases hs
          · cases hs
        · cases hs
      · split at hs
        · rename_i s hcl
          have hu : P.underlying t = some .string := by
            unfold tCls at hcl
            cases hq : P.underlying t with
            | none => simp [hq] at hcl
            | some d => cases d <;> simp [hq] at hcl; rfl
          split at hs
          · rename_i a b ha hb
            split at hs
            · rename_i hc
              cases hs
              obtain ⟨h0, h1, h2⟩ := hc
              simp only [VR] at hx
              subst hx
              have hbr := bounds_run (P := P) (w := w) (isS := false) (cap := s.size) (len := s.size) (bnd_rel hl ha) (bnd_rel hh hb) h0 h1 (by omega) (by omega)
              exact ⟨_, by simp only [Instr.sliceAt, Sem.run_bind, run_und hu, Result.andThen, Instr.slice, Option.isSome_none, Bool.false_eq_true, if_false, Sem.run_pure, hbr], rfl⟩
            · cases hs
          · cases hs
        · cases hs
end Go.Proofs.YtjeafkodcmbabaaDoor.E
