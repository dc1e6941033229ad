/- How what comes in is read: of each type of Go the cells of a value, by what it means. No program in sight. -/
import Derived.Test.YtamkfjbdcjkchaaDoorMem
import Derived.ProofKit
import Derived.OpenShut
import Derived.ChangeOld
import Derived.SizedLaws
namespace Go.Proofs.HK
open Go.RowKit Go.ChangeShapes Go.WideShapes

theorem reach_eq : reachBytes = 140737488351232 := by decide

/-- What a value of type t means: its cells, in a world. -/
structure Dec (P : Program) (t : TypeId) (α : Type) where
  K : World → α → List Value → Prop
  ok : ∀ {H : Type} (enc : TypeId × Value → H) (w : World) (base : Nat) (spare : Nat → Bool) (held : Bool) (fuel : Nat) (cs : List Value) (x : DataW H × List MemPlace),
    DataW.trod enc P w base spare held fuel t cs = some x → (∀ n ∈ x.1.weights P t, n ≤ reachBytes) → ∃ a, K w a cs

section
variable {P : Program} {t e : TypeId} {α β : Type}
def Dec.int {k : IntKind} (ht : P.underlying t = some (.int k)) : Dec P t Int where
  K _ a cs := cs = [.int k a] ∧ (Lit.int k a).wf = true
  ok enc w base spare held fuel cs x h _ := by
    obtain ⟨a, h1, _, h2⟩ := DataW.trod_int ht h
    exact ⟨a, h1, h2⟩
def Dec.u8 (ht : P.underlying t = some (.int .u8)) : Dec P t UInt8 where
  K _ a cs := cs = [B a]
  ok enc w base spare held fuel cs x h _ := by
    obtain ⟨a, h1, _, h2⟩ := DataW.trod_int ht h
    have hb := bounds_u8 h2
    refine ⟨byteOf a, ?_⟩
    rw [h1, B_byteOf, Int.emod_eq_of_lt hb.1 (by omega)]
def Dec.bool (ht : P.underlying t = some .bool) : Dec P t Bool where
  K _ a cs := cs = [.bool a]
  ok enc w base spare held fuel cs x h _ := by
    cases fuel with
    | zero => simp [DataW.trod] at h
    | succ n =>
      unfold DataW.trod at h
      rw [ht] at h
      split at h <;> simp_all

/-- A slice that came in, of elements of one cell each. -/
structure SlIn (f : α → Value) (bytes : Nat) (w : World) (A : Option Addr) (xs : List α) (n c : Nat) : Prop where
  len : xs.length = n
  rd : Rd f w A xs
  cap : n ≤ c
  reach : n * bytes ≤ 140737488351232

theorem list_of_each {Q : Nat → α → Prop} : ∀ n, (∀ i, i < n → ∃ a, Q i a) → ∃ xs : List α, xs.length = n ∧ ∀ i (h : i < xs.length), Q i xs[i]
  | 0, _ => ⟨[], rfl, fun i h => absurd h (by simp)⟩
  | n + 1, h => by
    obtain ⟨xs, hl, hx⟩ := list_of_each n (fun i hi => h i (by omega))
    obtain ⟨a, ha⟩ := h n (by omega)
    refine ⟨xs ++ [a], by simp [hl], fun i hi => ?_⟩
    by_cases hlt : i < xs.length
    · rw [List.getElem_append_left hlt]; exact hx i hlt
    · have : i = n := by simp at hi; omega
      subst this
      rw [List.getElem_append_right (by omega)]
      simpa [hl] using ha

/-- A slice that came in, of elements of sz cells each. -/
structure SlM (K : World → α → List Value → Prop) (sz bytes : Nat) (w : World) (A : Option Addr) (xs : List α) (n c : Nat) : Prop where
  len : xs.length = n
  cap : n ≤ c
  reach : n * bytes ≤ 140737488351232
  at_ : ∀ i (h : i < xs.length), ∃ ad es, A = some ad ∧ es.length = sz ∧ (∀ j, j < sz → w.cell? (ad.add (i * sz + j)) = es[j]?) ∧ K w xs[i] es

def Dec.slice (d : Dec P e α) {sz bytes : Nat} (ht : P.underlying t = some (.slice e)) (hs : P.cellsOf e = sz) (hb : P.bytesOf e = bytes) : Dec P t (List α) where
  K w xs cs := ∃ A n c, cs = [.slice A n c] ∧ SlM d.K sz bytes w A xs n c
  ok := fun {H} enc w base spare held fuel cs x h hw => by
    rcases DataW.trod_slice ht h with ⟨rfl, rfl⟩ | ⟨a, len, cap, elems, rest, n, _, rfl, rfl, _, hlc, _, hel, hat, _, _⟩
    · exact ⟨[], none, 0, 0, rfl, ⟨rfl, Nat.le_refl _, by simp, fun i h => absurd h (by simp)⟩⟩
    · have hW : ∀ m, m ∈ (DataW.weights P t (DataW.slice (elems.map (·.1)) (rest.map (·.1)))) ↔ m = (elems.length + rest.length) * P.bytesOf e ∨ (m ∈ DataW.weightsAll P e (elems.map (·.1)) ∨ m ∈ DataW.weightsAll P e (rest.map (·.1))) := by
        intro m
        simp [DataW.weights, ht]
      have hr : len * bytes ≤ 140737488351232 := by
        have := hw _ ((hW _).2 (.inl rfl))
        rw [reach_eq, hb] at this
        refine Nat.le_trans (Nat.mul_le_mul_right _ ?_) this
        omega
      have hall : ∀ (l : List (DataW H × List MemPlace)) (i : Nat) (y : DataW H × List MemPlace), l[i]? = some y → ∀ m ∈ y.1.weights P e, m ∈ DataW.weightsAll P e (l.map (·.1)) := by
        intro l
        induction l with
        | nil => intro i y hy; simp at hy
        | cons z l ih =>
          intro i y hy m hm
          simp only [List.map_cons, DataW.weightsAll, List.mem_append]
          cases i with
          | zero => simp at hy; subst hy; exact .inl hm
          | succ i => exact .inr (ih i y (by simpa using hy) m hm)
      obtain ⟨xs, hl, hx⟩ := list_of_each (Q := fun i y => ∃ es, es.length = sz ∧ (∀ j, j < sz → w.cell? (a.add (i * sz + j)) = es[j]?) ∧ d.K w y es) len (fun i hi => by
        have h1 := hat i hi
        obtain ⟨y, hy⟩ : ∃ y, elems[i]? = some y := ⟨_, List.getElem?_eq_getElem (by omega)⟩
        rw [hy] at h1
        obtain ⟨es, he, ht'⟩ := Option.bind_eq_some_iff.1 h1
        obtain ⟨_, hle, hce⟩ := World.cells?_some he
        obtain ⟨z, hz⟩ := d.ok enc w base spare held n es y ht' (fun m hm => hw m ((hW m).2 (.inr (.inl (hall _ i y hy m hm)))))
        rw [hs] at hle hce
        exact ⟨z, es, hle, fun j hj => by rw [← add_add]; exact hce j hj, hz⟩)
      exact ⟨xs, some a, len, cap, rfl, ⟨hl, hlc, hr, fun i hi => by obtain ⟨es, q1, q2, q3⟩ := hx i hi; exact ⟨a, es, rfl, q1, q2, q3⟩⟩⟩

theorem SlM.sl {K : World → α → List Value → Prop} {f : α → Value} {bytes : Nat} {w : World} {A : Option Addr} {xs : List α} {n c : Nat} (h : SlM K 1 bytes w A xs n c) (hK : ∀ x es, K w x es → es = [f x]) : SlIn f bytes w A xs n c :=
  ⟨h.len, fun h0 => by
    obtain ⟨ad, es, e, h1, h2, h3⟩ := h.at_ 0 h0
    refine ⟨ad, e, fun j hj => ?_⟩
    obtain ⟨ad', es', e', h1', h2', h3'⟩ := h.at_ j hj
    rw [e] at e'
    injection e' with e'
    subst e'
    have := h2' 0 (by omega)
    rw [hK _ _ h3'] at this
    simpa using this, h.cap, h.reach⟩

/-- A field of a struct. -/
theorem struct_field {H : Type} {enc : TypeId × Value → H} {w : World} {base : Nat} {spare : Nat → Bool} {held : Bool} {fuel : Nat} {cs : List Value} {x : DataW H × List MemPlace} {fs : Array Field} (ht : P.underlying t = some (.struct fs))
    (h : DataW.trod enc P w base spare held fuel t cs = some x) (hw : ∀ n ∈ x.1.weights P t, n ≤ reachBytes) :
    cs.length = P.cellsOf t ∧ ∀ (i : Nat) (f : Field) (α : Type) (d : Dec P f.type α), fs[i]? = some f → ∃ a, d.K w a ((cs.drop f.offset).take (P.cellsOf f.type)) := by
  obtain ⟨xs, n, _, rfl, hlen, hsz, hf⟩ := DataW.trod_struct ht h
  refine ⟨hlen, fun i f α d hi => ?_⟩
  have h1 := hf i f hi
  have hlt : i < fs.size := (Array.getElem?_eq_some_iff.1 hi).1
  obtain ⟨y, hy⟩ : ∃ y, xs[i]? = some y := ⟨_, List.getElem?_eq_getElem (by omega)⟩
  rw [hy] at h1
  refine d.ok enc w base spare held n _ y h1 (fun m hm => hw m ?_)
  have hmem := DataW.weights_mem_each (P := P) (ts := fs.toList.map (·.type)) (ds := xs.map (·.1)) (j := i) (t := f.type) (d := y.1) (by simp [hi]) (by simp [hy]) m hm
  simpa [DataW.weights, ht] using hmem

theorem split_cells (cs : List Value) (k : Nat) (hk : k < cs.length) : (cs.drop k).take 1 = [cs.getD k undef] := by
  have := List.drop_eq_getElem_cons hk
  rw [this, List.take_succ_cons, List.take_zero]
  simp [List.getD, hk]
end

/-- The fields of a struct, from a place on. -/
structure FDec (P : Program) (fs : List Field) (off : Nat) (α : Type) where
  K : World → α → List Value → Prop
  ok : ∀ (w : World) (cs : List Value), (∀ (i : Nat) (f : Field), fs[i]? = some f → ∀ (β : Type) (d : Dec P f.type β), ∃ a, d.K w a ((cs.drop f.offset).take (P.cellsOf f.type))) →
    off + (fs.map fun f => P.cellsOf f.type).sum = cs.length → ∃ a, K w a (cs.drop off)
def FDec.nil (P : Program) (off : Nat) : FDec P [] off Unit where
  K _ _ cs := cs = []
  ok w cs _ h := ⟨(), List.drop_eq_nil_of_le (by simp at h; omega)⟩
def FDec.cons {P : Program} {fs : List Field} {off : Nat} {α β : Type} (f : Field) (n : Nat) (d : Dec P f.type α) (ho : f.offset = off) (hn : P.cellsOf f.type = n) (r : FDec P fs (off + n) β) : FDec P (f :: fs) off (α × β) where
  K w x cs := ∃ e1 e2, cs = e1 ++ e2 ∧ e1.length = n ∧ d.K w x.1 e1 ∧ r.K w x.2 e2
  ok w cs h hl := by
    obtain ⟨a, ha⟩ := h 0 f rfl α d
    obtain ⟨b, hb⟩ := r.ok w cs (fun i g hg => h (i + 1) g hg) (by simp only [List.map_cons, List.sum_cons, hn] at hl; omega)
    rw [ho, hn] at ha
    refine ⟨(a, b), _, _, ?_, ?_, ha, hb⟩
    · rw [← List.drop_drop, List.take_append_drop]
    · rw [List.length_take, List.length_drop]
      simp only [List.map_cons, List.sum_cons, hn] at hl
      omega
def Dec.struct {P : Program} {t : TypeId} {fs : Array Field} {α : Type} (ht : P.underlying t = some (.struct fs)) (F : FDec P fs.toList 0 α) (hc : P.cellsOf t = (fs.toList.map fun f => P.cellsOf f.type).sum) : Dec P t α where
  K := F.K
  ok := fun {H} enc w base spare held fuel cs x h hw => by
    obtain ⟨hl, hf⟩ := struct_field ht h hw
    have := F.ok w cs (fun i f hi β d => hf i f β d (by simpa using hi)) (by rw [hl, hc]; omega)
    simpa using this
theorem SlM.imp {α : Type} {K K' : World → α → List Value → Prop} {sz bytes : Nat} {w : World} {A : Option Addr} {xs : List α} {n c : Nat} (h : SlM K sz bytes w A xs n c) (hk : ∀ x es, K w x es → K' w x es) : SlM K' sz bytes w A xs n c :=
  ⟨h.len, h.cap, h.reach, fun i hi => by obtain ⟨ad, es, h1, h2, h3, h4⟩ := h.at_ i hi; exact ⟨ad, es, h1, h2, h3, hk _ _ h4⟩⟩
end Go.Proofs.HK
