/- Plain words for memory: a frame of blocks, rows that a call owns, append on them. No program in sight. -/
import Derived.Test.YtamkfjbdcjkchaaDoorK
import Derived.ArgAppend
import Derived.OwnWalk
import Derived.Deep.AppendLies
import Derived.Deep.RegionHeld3
import Derived.Laws.BytesArg
import Derived.Lib.Bytes
namespace Go.Proofs.HK
open Go.RowKit

/-- Blocks that were there and are not in S are as they were. -/
structure Fr (S : Nat → Prop) (w w' : World) : Prop where
  os : w'.os = w.os
  tape : w'.tape = w.tape
  output : w'.output = w.output
  size : w.heap.size ≤ w'.heap.size
  block : ∀ k, k < w.heap.size → ¬ S k → w'.heap[k]? = w.heap[k]?

def No : Nat → Prop := fun _ => False
def One (g : Nat) : Nat → Prop := fun k => k = g
def Opt (o : Option Nat) : Nat → Prop := fun k => some k = o

section
variable {S S' : Nat → Prop} {w w1 w2 : World}
theorem Fr.refl (S : Nat → Prop) (w : World) : Fr S w w := ⟨rfl, rfl, rfl, Nat.le_refl _, fun _ _ _ => rfl⟩
theorem Fr.trans (h : Fr S w w1) (h' : Fr S' w1 w2) (hs : ∀ k, k < w.heap.size → S' k → S k) : Fr S w w2 :=
  ⟨h'.os.trans h.os, h'.tape.trans h.tape, h'.output.trans h.output, Nat.le_trans h.size h'.size,
   fun k hk hn => (h'.block k (Nat.lt_of_lt_of_le hk h.size) (fun hc => hn (hs k hk hc))).trans (h.block k hk hn)⟩
theorem Fr.then (h : Fr S w w1) (h' : Fr S w1 w2) : Fr S w w2 := h.trans h' (fun _ _ h => h)
theorem Fr.mono (h : Fr S w w1) (hs : ∀ k, k < w.heap.size → S k → S' k) : Fr S' w w1 :=
  ⟨h.os, h.tape, h.output, h.size, fun k hk hn => h.block k hk (fun hc => hn (hs k hk hc))⟩
theorem Fr.any (h : Fr No w w1) : Fr S w w1 := h.mono (fun _ _ h => h.elim)
theorem Fr.drew (h : Fr S w w1) : Fr S w w1.drew := ⟨h.os, h.tape, h.output, h.size, h.block⟩
theorem Fr.drewN (h : Fr S w w1) (n : Nat) : Fr S w (w1.drewN n) := ⟨h.os, h.tape, h.output, h.size, h.block⟩
theorem Fr.alloc (h : Fr S w w1) (o : Obj) : Fr S w (w1.alloc o) :=
  ⟨h.os, h.tape, h.output, Nat.le_trans h.size (by simp), fun k hk hn => (Below.heap_alloc w1 o k (Nat.lt_of_lt_of_le hk h.size)).trans (h.block k hk hn)⟩
theorem Fr.setCell (h : Fr S w w1) {p : Addr} (hp : p.block < w.heap.size → S p.block) (u : Value) : Fr S w (w1.setCell p u) :=
  ⟨h.os, h.tape, h.output, by simpa [World.setCell] using h.size, fun k hk hn => (Below.heap_setCell w1 p u k (fun e => hn (e ▸ hp (e ▸ hk)))).trans (h.block k hk hn)⟩
theorem Fr.below (h : Below w.heap.size w w1) : Fr S w w1 := ⟨h.os, h.tape, h.output, h.size, fun k hk _ => h.block k hk⟩
theorem Fr.to_below (h : Fr No w w1) : Below w.heap.size w w1 := ⟨h.os, h.tape, h.output, h.size, fun k hk => h.block k hk (fun h => h)⟩
theorem Fr.grown {row : Option Nat} (h : w.grownBy w1 row) : Fr (Opt row) w w1 := ⟨h.os, h.tape, h.output, h.size, fun k hk hn => h.block k hk hn⟩
theorem Fr.cell (h : Fr S w w1) {p : Addr} (hk : p.block < w.heap.size) (hn : ¬ S p.block) : w1.cell? p = w.cell? p := World.cell?_of_block (h.block p.block hk hn)
theorem Fr.frozen (h : Fr S w w1) {p : Addr} (hk : p.block < w.heap.size) (hn : ¬ S p.block) : w1.frozen? p = w.frozen? p := World.frozen?_of_block (h.block p.block hk hn)
end

theorem add_block (a : Addr) (n : Nat) : (a.add n).block = a.block := by unfold Addr.add; split <;> rfl
theorem add_add (a : Addr) (i j : Nat) : (a.add i).add j = a.add (i + j) := by
  unfold Addr.add
  by_cases hi : i = 0 <;> by_cases hj : j = 0 <;> simp [hi, hj, Nat.add_assoc]
theorem add_lit (g o j : Nat) : (⟨g, o, none⟩ : Addr).add j = ⟨g, o + j, none⟩ := by unfold Addr.add; split <;> simp_all
theorem add_zero (a : Addr) : a.add 0 = a := rfl
theorem lt_of_cell {w : World} {a : Addr} {v : Value} (h : w.cell? a = some v) : a.block < w.heap.size := World.block_lt_of_cell? w a h

/-- The cells cs stand from A on. -/
def Cells (w : World) (A : Option Addr) (cs : List Value) : Prop :=
  0 < cs.length → ∃ ad, A = some ad ∧ ∀ (j : Nat) (u : Value), cs[j]? = some u → w.cell? (ad.add j) = some u

theorem Cells.nil {w : World} {A : Option Addr} : Cells w A [] := fun h => absurd h (by simp)
theorem Cells.lt {w : World} {ad : Addr} {cs : List Value} (h : Cells w (some ad) cs) (h0 : 0 < cs.length) : ad.block < w.heap.size := by
  obtain ⟨a, e, hc⟩ := h h0
  injection e with e
  subst e
  have := lt_of_cell (hc 0 _ (List.getElem?_eq_getElem h0))
  rwa [add_block] at this
theorem Cells.keep {w w1 : World} {A : Option Addr} {cs : List Value} (h : Cells w A cs) (hb : ∀ ad, A = some ad → ad.block < w.heap.size → w1.heap[ad.block]? = w.heap[ad.block]?) : Cells w1 A cs := fun h0 => by
  obtain ⟨ad, rfl, hc⟩ := h h0
  have hlt := Cells.lt h h0
  refine ⟨ad, rfl, fun j u hu => ?_⟩
  rw [World.cell?_of_block (w := w) (by rw [add_block]; exact hb ad rfl hlt)]
  exact hc j u hu
theorem Cells.fr {S : Nat → Prop} {w w1 : World} {A : Option Addr} {cs : List Value} (h : Cells w A cs) (hf : Fr S w w1) (hn : ∀ ad, A = some ad → ¬ S ad.block) : Cells w1 A cs :=
  h.keep (fun ad e hlt => hf.block _ hlt (hn ad e))
theorem Cells.drop {w : World} {A : Option Addr} {cs : List Value} (h : Cells w A cs) (k : Nat) : Cells w (A.map (·.add k)) (cs.drop k) := fun h0 => by
  rw [List.length_drop] at h0
  obtain ⟨ad, rfl, hc⟩ := h (by omega)
  refine ⟨ad.add k, rfl, fun j u hu => ?_⟩
  rw [add_add]
  exact hc _ u (by rw [← hu, List.getElem?_drop])
theorem Cells.take {w : World} {A : Option Addr} {cs : List Value} (h : Cells w A cs) (k : Nat) : Cells w A (cs.take k) := fun h0 => by
  have h1 : 0 < cs.length := by rw [List.length_take] at h0; omega
  obtain ⟨ad, rfl, hc⟩ := h h1
  refine ⟨ad, rfl, fun j u hu => hc j u ?_⟩
  rw [List.getElem?_take] at hu
  split at hu
  · exact hu
  · cases hu

/-- Rd is Cells of the encoded elements. -/
theorem Rd.cells {α : Type} {f : α → Value} {w : World} {A : Option Addr} {xs : List α} : Rd f w A xs ↔ Cells w A (xs.map f) := by
  unfold Rd Cells
  constructor
  · intro h h0
    obtain ⟨ad, e, hc⟩ := h (by simpa using h0)
    refine ⟨ad, e, fun j u hu => ?_⟩
    obtain ⟨hl, rfl⟩ := List.getElem?_eq_some_iff.1 hu
    rw [hc j (by simpa using hl)]
    simp
  · intro h h0
    obtain ⟨ad, e, hc⟩ := h (by simpa using h0)
    exact ⟨ad, e, fun j hj => hc j _ (by simp [hj])⟩
theorem Rd.keep {α : Type} {f : α → Value} {w w1 : World} {A : Option Addr} {xs : List α} (h : Rd f w A xs) (hb : ∀ ad, A = some ad → ad.block < w.heap.size → w1.heap[ad.block]? = w.heap[ad.block]?) : Rd f w1 A xs :=
  Rd.cells.2 ((Rd.cells.1 h).keep hb)
theorem Rd.fr {α : Type} {f : α → Value} {S : Nat → Prop} {w w1 : World} {A : Option Addr} {xs : List α} (h : Rd f w A xs) (hf : Fr S w w1) (hn : ∀ ad, A = some ad → ¬ S ad.block) : Rd f w1 A xs :=
  h.keep (fun ad e hlt => hf.block _ hlt (hn ad e))
theorem Rd.fr0 {α : Type} {f : α → Value} {w w1 : World} {A : Option Addr} {xs : List α} (h : Rd f w A xs) (hf : Fr No w w1) : Rd f w1 A xs := h.fr hf (fun _ _ h => h)
theorem Rd.drewN {α : Type} {f : α → Value} {w : World} {A : Option Addr} {xs : List α} (h : Rd f w A xs) (k : Nat) : Rd f (w.drewN k) A xs := h
theorem Rd.drew {α : Type} {f : α → Value} {w : World} {A : Option Addr} {xs : List α} (h : Rd f w A xs) : Rd f w.drew A xs := h
theorem Rd.alloc {α : Type} {f : α → Value} {w : World} {A : Option Addr} {xs : List α} (h : Rd f w A xs) (o : Obj) : Rd f (w.alloc o) A xs := h.fr0 ((Fr.refl _ _).alloc o)
theorem Rd.drop {α : Type} {f : α → Value} {w : World} {A : Option Addr} {xs : List α} (h : Rd f w A xs) (k : Nat) : Rd f w (A.map (·.add k)) (xs.drop k) :=
  Rd.cells.2 (by rw [List.map_drop]; exact (Rd.cells.1 h).drop k)
theorem Rd.take {α : Type} {f : α → Value} {w : World} {A : Option Addr} {xs : List α} (h : Rd f w A xs) (k : Nat) : Rd f w A (xs.take k) :=
  Rd.cells.2 (by rw [List.map_take]; exact (Rd.cells.1 h).take k)
theorem Rd.lt {α : Type} {f : α → Value} {w : World} {ad : Addr} {xs : List α} (h : Rd f w (some ad) xs) (h0 : 0 < xs.length) : ad.block < w.heap.size := (Rd.cells.1 h).lt (by simpa using h0)
/-- A cut: the address that the model gives to xs[k:]. -/
theorem Rd.cut {α : Type} {f : α → Value} {w : World} {A : Option Addr} {xs : List α} (h : Rd f w A xs) (k cap : Nat) (hc : xs.length ≤ cap) (hk : k ≤ xs.length) :
    Rd f w (if cap = k then A else A.map (·.add k)) (xs.drop k) := by
  by_cases e : cap = k
  · have : xs.drop k = [] := List.drop_eq_nil_of_le (by omega)
    rw [this]; exact Rd.nil
  · rw [if_neg e]; exact h.drop k

/-- A row of the call's own: v's n elements, of sz cells each, are cs; they and the spare room may be written. -/
def Row (w : World) (sz : Nat) (v : Value) (ob : Option Nat) (n : Nat) (cs : List Value) : Prop :=
  cs.length = n * sz ∧ n ≤ 9223372036854775807 ∧ ((v = .slice none 0 0 ∧ n = 0 ∧ ob = none) ∨
    ∃ h o cap, v = .slice (some ⟨h, o, none⟩) n cap ∧ ob = some h ∧ n ≤ cap ∧ h < w.heap.size ∧
      (∀ j, j < cap * sz → (w.cell? ⟨h, o + j, none⟩).isSome = true ∧ w.frozen? ⟨h, o + j, none⟩ = false) ∧
      (∀ (j : Nat) (u : Value), cs[j]? = some u → w.cell? ⟨h, o + j, none⟩ = some u))

section
variable {w w1 : World} {sz n : Nat} {v : Value} {ob : Option Nat} {cs : List Value}
theorem Row.nil (w : World) (sz : Nat) : Row w sz (.slice none 0 0) none 0 [] := ⟨by simp, by omega, .inl ⟨rfl, rfl, rfl⟩⟩
theorem Row.keep (h : Row w sz v ob n cs) (hs : w.heap.size ≤ w1.heap.size) (hb : ∀ k, ob = some k → w1.heap[k]? = w.heap[k]?) : Row w1 sz v ob n cs := by
  obtain ⟨h1, h2, h3⟩ := h
  refine ⟨h1, h2, ?_⟩
  rcases h3 with h3 | ⟨g, o, cap, e1, e2, e3, e4, e5, e6⟩
  · exact .inl h3
  · have hh := hb g e2
    refine .inr ⟨g, o, cap, e1, e2, e3, by omega, fun j hj => ?_, fun j u hu => ?_⟩
    · rw [World.cell?_of_block (w := w) (a := ⟨g, o + j, none⟩) hh, World.frozen?_of_block (w := w) (a := ⟨g, o + j, none⟩) hh]
      exact e5 j hj
    · rw [World.cell?_of_block (w := w) (a := ⟨g, o + j, none⟩) hh]
      exact e6 j u hu
theorem Row.drew (h : Row w sz v ob n cs) : Row w.drew sz v ob n cs := h
theorem Row.drewN (h : Row w sz v ob n cs) (k : Nat) : Row (w.drewN k) sz v ob n cs := h
theorem Row.lt (h : Row w sz v ob n cs) {k : Nat} (hk : ob = some k) : k < w.heap.size := by
  rcases h.2.2 with ⟨_, _, h3⟩ | ⟨g, o, cap, _, e2, _, e4, _⟩
  · rw [h3] at hk; cases hk
  · rw [e2] at hk; injection hk with hk; omega
theorem Row.fr {S : Nat → Prop} (h : Row w sz v ob n cs) (hf : Fr S w w1) (hn : ∀ k, ob = some k → ¬ S k) : Row w1 sz v ob n cs :=
  h.keep hf.size (fun k hk => hf.block k (h.lt hk) (hn k hk))
theorem Row.cells (h : Row w sz v ob n cs) : ∃ A cap, v = .slice A n cap ∧ n ≤ cap ∧ Cells w A cs ∧ ∀ ad, A = some ad → ob = some ad.block := by
  obtain ⟨h1, h2, h3⟩ := h
  rcases h3 with ⟨rfl, rfl, rfl⟩ | ⟨g, o, cap, rfl, rfl, e3, e4, e5, e6⟩
  · exact ⟨none, 0, rfl, Nat.le_refl _, fun h0 => by rw [h1] at h0; simp at h0, fun _ h => by cases h⟩
  · exact ⟨_, cap, rfl, e3, fun _ => ⟨_, rfl, fun j u hu => by rw [add_lit]; exact e6 j u hu⟩, fun ad e => by injection e with e; rw [← e]⟩
theorem Row.of_owns {base : Nat} {e : TypeId} (h : w.ownsRow base e sz v n cs) : Row w sz v v.ownBlock n cs := by
  obtain ⟨h1, h2⟩ := h
  rcases h2 with ⟨rfl, rfl⟩ | ⟨g, cap, cur, rfl, hb, hh, hn, hc, hs, ht⟩
  · exact ⟨h1, by omega, .inl ⟨rfl, rfl, rfl⟩⟩
  · have hlt : g < w.heap.size := (Array.getElem?_eq_some_iff.1 hh).1
    refine ⟨h1, by unfold maxLen at hc; omega, .inr ⟨g, 0, cap, rfl, rfl, hn, hlt, fun j hj => ?_, fun j u hu => ?_⟩⟩
    · constructor
      · simp [World.cell?, hh, hs, hj]
      · simp [World.frozen?, hh]
    · rw [← ht, List.getElem?_take] at hu
      split at hu
      · simpa [World.cell?, hh] using hu
      · cases hu
end

theorem heap_setCells (b : Nat) : ∀ (vs : List Value) (o : Nat) (w : World) (k : Nat), k ≠ b → (w.setCells b o vs).heap[k]? = w.heap[k]?
  | [], _, _, _, _ => rfl
  | v :: r, o, w, k, h => by rw [World.setCells, heap_setCells b r (o + 1) _ k h]; exact Below.heap_setCell w ⟨b, o, none⟩ v k h
theorem size_setCells (b : Nat) : ∀ (vs : List Value) (o : Nat) (w : World), (w.setCells b o vs).heap.size = w.heap.size
  | [], _, _ => rfl
  | v :: r, o, w => by rw [World.setCells, size_setCells b r (o + 1)]; simp [World.setCell]
theorem os_setCells (b : Nat) : ∀ (vs : List Value) (o : Nat) (w : World), (w.setCells b o vs).os = w.os ∧ (w.setCells b o vs).tape = w.tape ∧ (w.setCells b o vs).output = w.output
  | [], _, _ => ⟨rfl, rfl, rfl⟩
  | v :: r, o, w => os_setCells b r (o + 1) (w.setCell ⟨b, o, none⟩ v)

section
variable {P : Program} (w : World)
/-- append: whatever comes of it, a row of the old elements and the new ones. -/
theorem run_app (t ty e : TypeId) (i : TypeInfo) (z : Value) (sz bytes : Nat) (ht : P.underlying t = some (.slice e)) (hi : P.info? e = some i) (hz : i.zero = some z)
    (hsize : i.size = sz) (hby : i.bytes = bytes) (hzs : z.cells.size = sz) (hsz : 0 < sz)
    (v : Value) (ob : Option Nat) (n : Nat) (xs : List Value) (hv : Row w sz v ob n xs)
    (A : Option Addr) (m c : Nat) (ys : List Value) (hl : ys.length = m * sz) (hx : Cells w A ys) (h1 : ∀ u ∈ ys, u.oneCell' = true)
    (hb : (n + m) * bytes ≤ 140737488355328) (hnm : n + m ≤ 9223372036854775807) :
    ∃ v' w' ob', (Builtin.append_ #[t, t] ty #[v, .slice A m c]).run P w = .ok v' w' ∧ Row w' sz v' ob' (n + m) (xs ++ ys) ∧ Fr (Opt ob) w w' ∧ (ob' = ob ∨ ∃ k, ob' = some k ∧ w.heap.size ≤ k) := by
  rcases Nat.eq_zero_or_pos m with hm | hm
  · subst hm
    have hy : ys = [] := List.eq_nil_of_length_eq_zero (by simpa using hl)
    subst hy
    refine ⟨v, w, ob, ?_, by simpa using hv, Fr.refl _ _, .inl rfl⟩
    rcases hv.2.2 with ⟨rfl, rfl, rfl⟩ | ⟨g, o, cap, rfl, rfl, e3, e4, e5, e6⟩
    · cases A <;> simp [Builtin.append_, run_underlying ht, sizeOf, typeInfo, hi, Builtin.lenOf, Builtin.firstCells, loadCells, loadCellsFrom]
    · cases A <;> simp [Builtin.append_, run_underlying ht, sizeOf, typeInfo, hi, Builtin.lenOf, Builtin.firstCells, loadCells, loadCellsFrom, e3, storeCells]
  · obtain ⟨ad, rfl, hc⟩ := hx (by rw [hl]; exact Nat.mul_pos hm hsz)
    obtain ⟨hv1, hv2, hv3⟩ := hv
    rcases hv3 with ⟨rfl, rfl, rfl⟩ | ⟨g, o, cap, rfl, rfl, e3, e4, e5, e6⟩
    · have hxs : xs = [] := List.eq_nil_of_length_eq_zero (by simpa using hv1)
      subst hxs
      have hr := run_append_own (P := P) w w.heap.size t ty e i z sz bytes ht hi hz hsize hby hzs hsz (.slice none 0 0) 0 [] (World.ownsRow_nil w _ e sz) ad m c ys hl hc h1 (by unfold maxLen; omega) hb (Nat.le_refl _)
      obtain ⟨v', w', hrun, ho, hg, _⟩ := hr
      have hgb : w.grownBy w' none := hg
      refine ⟨v', w', v'.ownBlock, hrun, Row.of_owns ho, Fr.grown hgb, ?_⟩
      rcases hk : v'.ownBlock with _ | k
      · exact .inl rfl
      · exact .inr ⟨k, rfl, by
          rcases ho.2 with ⟨rfl, _⟩ | ⟨g', cap', cur, rfl, hb', _⟩
          · simp [Value.ownBlock] at hk
          · simp [Value.ownBlock] at hk; omega⟩
    · by_cases hroom : n + m ≤ cap
      · subst hsize
        have hle : (n + m) * i.size ≤ cap * i.size := Nat.mul_le_mul_right _ hroom
        rw [Nat.add_mul] at hle
        have hr := run_append_room_cells (P := P) w t ty e i ht hi g o n cap ad m c ys hl hc h1 hroom
          (fun j hj => by rw [Nat.add_assoc]; exact (e5 _ (by omega)).1) (fun j hj => by rw [Nat.add_assoc]; exact (e5 _ (by omega)).2)
        refine ⟨_, _, some g, hr, ⟨by rw [List.length_append, hv1, hl, Nat.add_mul], hnm, .inr ⟨g, o, cap, rfl, rfl, hroom, by rw [size_setCells]; exact e4, fun j hj => ?_, fun j u hu => ?_⟩⟩, ?_, .inl rfl⟩
        · rw [World.frozen?_setCells]
          refine ⟨?_, (e5 j hj).2⟩
          by_cases hin : n * i.size ≤ j ∧ j < n * i.size + ys.length
          · have := World.cell?_setCells_in g ys (o + n * i.size) w (fun q hq => by rw [Nat.add_assoc]; exact (e5 _ (by omega)).1) (j - n * i.size) (by omega)
            rw [show o + n * i.size + (j - n * i.size) = o + j by omega] at this
            rw [this]; rfl
          · rw [World.cell?_setCells_out g ys _ _ _ (fun _ _ => by show o + j < _ ∨ _ ≤ o + j; omega)]
            exact (e5 j hj).1
        · by_cases hin : j < n * i.size
          · rw [List.getElem?_append_left (by omega)] at hu
            rw [World.cell?_setCells_out g ys _ _ _ (fun _ _ => by show o + j < _ ∨ _ ≤ o + j; omega)]
            exact e6 j u hu
          · rw [List.getElem?_append_right (by omega), hv1] at hu
            obtain ⟨hlt, rfl⟩ := List.getElem?_eq_some_iff.1 hu
            have := World.cell?_setCells_in g ys (o + n * i.size) w (fun q hq => by rw [Nat.add_assoc]; exact (e5 _ (by omega)).1) (j - n * i.size) hlt
            rw [show o + n * i.size + (j - n * i.size) = o + j by omega] at this
            exact this
        · obtain ⟨q1, q2, q3⟩ := os_setCells g ys (o + n * i.size) w
          exact ⟨q1, q2, q3, by rw [size_setCells]; exact Nat.le_refl _, fun k hk hn => heap_setCells g ys _ w k (fun e => hn (by rw [e]; exact rfl))⟩
      · have hr := run_append_arg_grows (P := P) w t ty e i z sz bytes ht hi hz hsize hby hzs hsz ⟨g, o, none⟩ n cap xs hv1 (fun j u hu => by rw [add_lit]; exact e6 j u hu) ad m c ys hl hc (by omega) (by unfold maxLen; omega) hb
        obtain ⟨v', w', hrun, ho, hg⟩ := hr
        refine ⟨v', w', v'.ownBlock, hrun, Row.of_owns ho, (Fr.grown hg).mono (fun k _ h => by cases h), ?_⟩
        rcases ho.2 with ⟨rfl, h0⟩ | ⟨g', cap', cur, rfl, hb', _⟩
        · omega
        · exact .inr ⟨g', rfl, hb'⟩
end

/-- The facts of a slice type t over elements e of sz cells and so many bytes. -/
structure SlT (P : Program) (t e : TypeId) (sz bytes : Nat) : Prop where
  und : P.underlying t = some (.slice e)
  info : ∃ i z, P.info? e = some i ∧ i.zero = some z ∧ i.size = sz ∧ i.bytes = bytes ∧ z.cells.size = sz
  pos : 0 < sz

theorem SlT.of {P : Program} {t e : TypeId} {sz bytes : Nat} {z : Value} (h : P.underlying t = some (.slice e)) (hi : (P.info? e).map (fun i => (i.zero, i.size, i.bytes)) = some (some z, sz, bytes)) (hz : z.cells.size = sz) (h0 : 0 < sz) : SlT P t e sz bytes := by
  obtain ⟨i, h1, h2⟩ := Option.map_eq_some_iff.1 hi
  simp only [Prod.mk.injEq] at h2
  exact ⟨h, ⟨i, z, h1, h2.1, h2.2.1, h2.2.2, hz⟩, h0⟩

section
variable {P : Program} {w : World} {ops : Array Oper} {rest : List Oper} {o : Oper} {a : Act} {Q : Exit → Act → World → Prop}
theorem wpList_app {t e : TypeId} {sz bytes : Nat} (hT : SlT P t e sz bytes) (hgd : o.guard = none) (s x : Operand)
    (ho : o.op = .call { callee := .builtin .append, args := #[s, x], argTypes := #[t, t] })
    {v : Value} {ob : Option Nat} {n : Nat} {xs : List Value} (hs : a.eval s = v) (hv : Row w sz v ob n xs)
    {A : Option Addr} {m c : Nat} {ys : List Value} (hx : a.eval x = .slice A m c) (hl : ys.length = m * sz) (hc : Cells w A ys) (h1 : ∀ u ∈ ys, u.oneCell' = true)
    (hb : (n + m) * bytes ≤ 140737488355328) (hnm : n + m ≤ 9223372036854775807)
    (h : ∀ A' c' w' ob', Row w' sz (.slice A' (n + m) c') ob' (n + m) (xs ++ ys) → Fr (Opt ob) w w' → (ob' = ob ∨ ∃ k, ob' = some k ∧ w.heap.size ≤ k) → wpList P ops Q rest (a.put o.dst (.slice A' (n + m) c')) w') :
    wpList P ops Q (o :: rest) a w := by
  obtain ⟨i, z, hi, hz, h2, h3, h4⟩ := hT.info
  obtain ⟨v', w', ob', hr, k1, k2, k3⟩ := run_app (P := P) w t o.type e i z sz bytes hT.und hi hz h2 h3 h4 hT.pos v ob n xs hv A m c ys hl hc h1 hb hnm
  refine wpList_plain hgd fun K hK => ?_
  unfold Oper.wp execOp
  simp only [ho, resolve, invoke, builtin, Sem.run_bind, Sem.run_pure, Result.andThen_ok, List.map_toArray, List.map_cons, List.map_nil, hs, hx, hr]
  obtain ⟨A', c', rfl, _⟩ := k1.cells
  exact hK _ _ (h A' c' w' ob' k1 k2 k3)

theorem cells_new (w : World) (l : List Value) (e : TypeId) : Cells (w.alloc (.cells l.toArray e)) (some ⟨w.heap.size, 0, none⟩) l := fun _ =>
  ⟨_, rfl, fun j u hu => World.news_of_block (heap_alloc_new w _) j u (by simpa using hu)⟩

/-- append of elements that stand written out: they lie in the newest block. -/
theorem wpList_app1 {t e : TypeId} {sz bytes : Nat} (hT : SlT P t e sz bytes) (hgd : o.guard = none) (s x : Operand)
    (ho : o.op = .call { callee := .builtin .append, args := #[s, x], argTypes := #[t, t] })
    {v : Value} {ob : Option Nat} {n : Nat} {xs : List Value} (hs : a.eval s = v) (hv : Row w sz v ob n xs)
    {m c : Nat} {ys : List Value} (hx : a.eval x = .slice (some ⟨w.heap.size, 0, none⟩) m c) (hl : ys.length = m * sz) (h1 : ∀ u ∈ ys, u.oneCell' = true)
    (hb : (n + m) * bytes ≤ 140737488355328) (hnm : n + m ≤ 9223372036854775807)
    (h : ∀ A' c' w' ob', Row w' sz (.slice A' (n + m) c') ob' (n + m) (xs ++ ys) → Fr (Opt ob) w w' → (ob' = ob ∨ ∃ k, ob' = some k ∧ w.heap.size ≤ k) → wpList P ops Q rest (a.put o.dst (.slice A' (n + m) c')) w') :
    wpList P ops Q (o :: rest) a (w.alloc (.cells ys.toArray e)) := by
  refine wpList_app hT hgd s x ho hs (hv.fr (S := No) ((Fr.refl _ _).alloc _) (fun _ _ h => h)) hx hl (cells_new w ys e) h1 hb hnm (fun A' c' w' ob' k1 k2 k3 => h A' c' w' ob' k1 ?_ ?_)
  · exact (((Fr.refl (Opt ob) w).alloc _).trans k2 (fun _ _ h => h))
  · rcases k3 with k3 | ⟨k, k3, k4⟩
    · exact .inl k3
    · exact .inr ⟨k, k3, by simp at k4; omega⟩
end

theorem Row.blk {W : World} {g : Nat} (sz n : Nat) (l : List Value) (e : TypeId) (hh : W.heap[g]? = some (.cells l.toArray e (0, 0))) (h : l.length = n * sz) (hn : n ≤ 9223372036854775807) :
    Row W sz (.slice (some ⟨g, 0, none⟩) n n) (some g) n l := by
  refine ⟨h, hn, .inr ⟨g, 0, n, rfl, rfl, Nat.le_refl _, (Array.getElem?_eq_some_iff.1 hh).1, fun j hj => ?_, fun j u hu => ?_⟩⟩
  · rw [← h] at hj
    constructor
    · simp [World.cell?, hh, hj]
    · simp [World.frozen?, hh]
  · simpa [World.cell?, hh] using hu
theorem Row.new (w : World) (sz n : Nat) (l : List Value) (e : TypeId) (h : l.length = n * sz) (hn : n ≤ 9223372036854775807) : Row (w.alloc (.cells l.toArray e)) sz (.slice (some ⟨w.heap.size, 0, none⟩) n n) (some w.heap.size) n l :=
  Row.blk sz n l e (heap_alloc_new w _) h hn
theorem oneB (xs : List UInt8) : ∀ u ∈ xs.map B, u.oneCell' = true := by
  intro u hu
  obtain ⟨x, _, rfl⟩ := List.mem_map.1 hu
  rfl

theorem Fr.fresh {S : Nat → Prop} {w w1 w2 : World} {ob : Option Nat} (h : Fr S w w1) (h' : Fr (Opt ob) w1 w2) (hob : ∀ k, ob = some k → w.heap.size ≤ k) : Fr S w w2 :=
  h.trans h' (fun k hk e => absurd (hob k e.symm) (by omega))
theorem Row.rd {α : Type} {f : α → Value} {w : World} {A : Option Addr} {n c : Nat} {ob : Option Nat} {xs : List α} (h : Row w 1 (.slice A n c) ob n (xs.map f)) :
    Rd f w A xs ∧ n ≤ c ∧ (∀ ad, A = some ad → ob = some ad.block) ∧ xs.length = n := by
  obtain ⟨A', c', e, h1, h2, h3⟩ := h.cells
  injection e with e1 _ e2
  subst e1
  subst e2
  exact ⟨Rd.cells.2 h2, h1, h3, by have := h.1; simpa using this⟩
theorem some_le {ob : Option Nat} {g m : Nat} (h : ob = some g ∨ ∃ k, ob = some k ∧ m ≤ k) (hm : m ≤ g) : ∀ k, ob = some k → m ≤ k := by
  intro k hk
  rcases h with h | ⟨j, h, hj⟩ <;> rw [h] at hk <;> injection hk with hk <;> omega
theorem heap_new (w : World) (o : Obj) : (w.alloc o).heap[w.heap.size]? = some o := heap_alloc_new w o
theorem Fr.set1 (w : World) (g i : Nat) (u : Value) : Fr (One g) w (w.setCell ⟨g, i, none⟩ u) := (Fr.refl (One g) w).setCell (p := ⟨g, i, none⟩) (fun _ => rfl) u
theorem heap_set (w : World) (g i : Nat) (cs : Array Value) (t : TypeId) (u : Value) (h : w.heap[g]? = some (.cells cs t (0, 0))) : (w.setCell ⟨g, i, none⟩ u).heap[g]? = some (.cells (cs.setIfInBounds i u) t (0, 0)) := by
  simp [World.setCell, Array.getElem?_modify, h]

section
variable {P : Program} {w : World} {ops : Array Oper} {o : Oper} {a : Act} {K : Act → World → Prop} {Q : Exit → Act → World → Prop} {E : Prop}
/-- append, as one step of a region that draws its order. -/
theorem step_app {t e : TypeId} {sz bytes : Nat} (hT : SlT P t e sz bytes) (hgd : o.guard = none) (s x : Operand)
    (ho : o.op = .call { callee := .builtin .append, args := #[s, x], argTypes := #[t, t] })
    {v : Value} {ob : Option Nat} {n : Nat} {xs : List Value} (hs : a.eval s = v) (hv : Row w sz v ob n xs)
    {A : Option Addr} {m c : Nat} {ys : List Value} (hx : a.eval x = .slice A m c) (hl : ys.length = m * sz) (hc : Cells w A ys) (h1 : ∀ u ∈ ys, u.oneCell' = true)
    (hb : (n + m) * bytes ≤ 140737488355328) (hnm : n + m ≤ 9223372036854775807)
    (h : ∀ A' c' w' ob', Row w' sz (.slice A' (n + m) c') ob' (n + m) (xs ++ ys) → Fr (Opt ob) w w' → (ob' = ob ∨ ∃ k, ob' = some k ∧ w.heap.size ≤ k) → K (a.put o.dst (.slice A' (n + m) c')) w') :
    if Region.wanted o (yielded ops a.tmps) = true then Oper.wp P o a w K Q else E := by
  obtain ⟨i, z, hi, hz, h2, h3, h4⟩ := hT.info
  obtain ⟨v', w', ob', hr, k1, k2, k3⟩ := run_app (P := P) w t o.type e i z sz bytes hT.und hi hz h2 h3 h4 hT.pos v ob n xs hv A m c ys hl hc h1 hb hnm
  rw [if_pos (by simp [Region.wanted, hgd])]
  unfold Oper.wp execOp
  simp only [ho, resolve, invoke, builtin, Sem.run_bind, Sem.run_pure, Result.andThen_ok, List.map_toArray, List.map_cons, List.map_nil, hs, hx, hr]
  obtain ⟨A', c', rfl, _⟩ := k1.cells
  exact h A' c' w' ob' k1 k2 k3
end

/-- Where a cut begins: the model's own 'if', behind a name. -/
def cutA (A : Option Addr) (cap l sz : Nat) : Option Addr := if cap = l then A else A.map (·.add (l * sz))
theorem cutA_blk {A : Option Addr} {cap l sz : Nat} {ad : Addr} (h : cutA A cap l sz = some ad) : ∃ a, A = some a ∧ ad.block = a.block := by
  unfold cutA at h
  split at h
  · exact ⟨ad, h, rfl⟩
  · cases A with
    | none => cases h
    | some a => injection h with h; exact ⟨a, rfl, by rw [← h, add_block]⟩
theorem Cells.cutA {w : World} {A : Option Addr} {cs : List Value} (h : Cells w A cs) (n l cap sz : Nat) (hl : cs.length = n * sz) (hc : n ≤ cap) (hk : l ≤ n) : Cells w (cutA A cap l sz) (cs.drop (l * sz)) := by
  unfold HK.cutA
  by_cases e : cap = l
  · have : cs.drop (l * sz) = [] := List.drop_eq_nil_of_le (by rw [hl]; exact Nat.mul_le_mul_right _ (by omega))
    rw [this]; exact Cells.nil
  · rw [if_neg e]; exact h.drop _
theorem Rd.cutA {α : Type} {f : α → Value} {w : World} {A : Option Addr} {xs : List α} (h : Rd f w A xs) (l cap : Nat) (hc : xs.length ≤ cap) (hk : l ≤ xs.length) : Rd f w (cutA A cap l 1) (xs.drop l) := by
  have := (Rd.cells.1 h).cutA xs.length l cap 1 (by simp) hc hk
  rw [Nat.mul_one, ← List.map_drop] at this
  exact Rd.cells.2 this

section
variable {P : Program} {t e : TypeId} {sz bytes : Nat} (hT : SlT P t e sz bytes)
include hT
theorem SlT.elem : P.elem t = e := by simp [Program.elem, hT.und]
theorem SlT.sizeOf (W : World) : (Go.sizeOf e).run P W = .ok sz W := by
  obtain ⟨i, z, hi, hz, h2, h3, h4⟩ := hT.info
  simp [Go.sizeOf, typeInfo, hi, h2]
theorem cut_lh (A : Option Addr) (len cap : Nat) (x y : Int) (l m : Nat) (hx : x = l) (hy : y = (l : Int) + (m : Int)) (hc : l + m ≤ cap) :
    ∀ W, (Instr.slice t (.slice A len cap) (some (.int .i64 x)) (some (.int .i64 y)) none).run P W = .ok (.slice (cutA A cap l sz) m (cap - l)) W := fun W => by
  subst hx
  subst hy
  rw [run_slice_lh (P := P) W t A len cap (by rw [hT.elem]; exact hT.und) .i64 .i64 _ _ (by omega) (by omega) (by omega), hT.elem, hT.sizeOf]
  have e1 : ((l : Int) + (m : Int)).toNat - l = m := by omega
  have e2 : (l : Int).toNat = l := by omega
  simp only [Result.andThen, sliced, cutA, e2, e1]
theorem cut_l (A : Option Addr) (len cap : Nat) (x : Int) (l : Nat) (hx : x = l) (hc : l ≤ len) :
    ∀ W, (Instr.slice t (.slice A len cap) (some (.int .i64 x)) none none).run P W = .ok (.slice (cutA A cap l sz) (len - l) (cap - l)) W := fun W => by
  subst hx
  rw [run_slice_l (P := P) W t A len cap (by rw [hT.elem]; exact hT.und) .i64 _ (by omega) (by omega), hT.elem, hT.sizeOf]
  have e2 : (l : Int).toNat = l := by omega
  simp only [Result.andThen, sliced, cutA, e2]
theorem cut_h (A : Option Addr) (len cap : Nat) (y : Int) (m : Nat) (hy : y = m) (hc : m ≤ cap) :
    ∀ W, (Instr.slice t (.slice A len cap) none (some (.int .i64 y)) none).run P W = .ok (.slice A m cap) W := fun W => by
  subst hy
  rw [run_slice_h (P := P) W t A len cap (by rw [hT.elem]; exact hT.und) .i64 _ (by omega) (by omega), hT.elem, hT.sizeOf]
  have e2 : (m : Int).toNat = m := by omega
  simp only [Result.andThen, sliced, e2, Nat.sub_zero, Nat.zero_mul]
  congr 2
  split
  · rfl
  · cases A <;> rfl
end
theorem Fr.cellg {S : Nat → Prop} {w w1 : World} (h : Fr S w w1) (g i : Nat) (hk : g < w.heap.size) (hn : ¬ S g) : w1.cell? ⟨g, i, none⟩ = w.cell? ⟨g, i, none⟩ := h.cell (p := ⟨g, i, none⟩) hk hn
theorem notOpt {g h : Nat} (hne : g ≠ h) : ¬ Opt (some h) g := fun e => hne (Option.some.inj e)

/-- v is a new slice of the elements xs (one cell each). -/
def NewR {α : Type} (f : α → Value) (w w' : World) (v : Value) (xs : List α) : Prop :=
  ∃ A n c ob, v = .slice A n c ∧ xs.length = n ∧ Row w' 1 (.slice A n c) ob n (xs.map f) ∧ (∀ k, ob = some k → w.heap.size ≤ k)
theorem NewR.nil {α : Type} {f : α → Value} {w w' : World} : NewR f w w' (.slice none 0 0) [] := ⟨none, 0, 0, none, rfl, rfl, Row.nil _ _, fun _ h => (by cases h)⟩
/-- .. and nothing that was there has turned. -/
def New {α : Type} (f : α → Value) (w w' : World) (v : Value) (xs : List α) : Prop := NewR f w w' v xs ∧ Fr No w w'
theorem New.open {α : Type} {f : α → Value} {w w' : World} {v : Value} {xs : List α} (h : New f w w' v xs) :
    ∃ A n c ob, v = .slice A n c ∧ xs.length = n ∧ Row w' 1 (.slice A n c) ob n (xs.map f) ∧ (∀ k, ob = some k → w.heap.size ≤ k) ∧ Fr No w w' := by
  obtain ⟨⟨A, n, c, ob, h1, h2, h3, h4⟩, h5⟩ := h
  exact ⟨A, n, c, ob, h1, h2, h3, h4, h5⟩
theorem New.mk' {α : Type} {f : α → Value} {w w' : World} {v : Value} {xs : List α} {A : Option Addr} {n c : Nat} {ob : Option Nat} (h1 : v = .slice A n c) (h2 : xs.length = n) (h3 : Row w' 1 (.slice A n c) ob n (xs.map f))
    (h4 : ∀ k, ob = some k → w.heap.size ≤ k) (h5 : Fr No w w') : New f w w' v xs := ⟨⟨A, n, c, ob, h1, h2, h3, h4⟩, h5⟩
theorem NewR.mk' {α : Type} {f : α → Value} {w w' : World} {v : Value} {xs : List α} {A : Option Addr} {n c : Nat} {ob : Option Nat} (h1 : v = .slice A n c) (h2 : xs.length = n) (h3 : Row w' 1 (.slice A n c) ob n (xs.map f))
    (h4 : ∀ k, ob = some k → w.heap.size ≤ k) : NewR f w w' v xs := ⟨A, n, c, ob, h1, h2, h3, h4⟩

theorem Row.set {w : World} {A : Option Addr} {n c : Nat} {ob : Option Nat} {cs : List Value} (h : Row w 1 (.slice A n c) ob n cs) (i : Nat) (hi : i < n) (u : Value) :
    ∃ g o old, A = some ⟨g, o, none⟩ ∧ ob = some g ∧ w.cell? ⟨g, o + i, none⟩ = some old ∧ w.frozen? ⟨g, o + i, none⟩ = false ∧ Row (w.setCell ⟨g, o + i, none⟩ u) 1 (.slice A n c) ob n (cs.set i u) := by
  obtain ⟨h1, h2, h3⟩ := h
  rcases h3 with ⟨e, h0, _⟩ | ⟨g, o, cap, e, e2, e3, e4, e5, e6⟩
  · omega
  · injection e with e7 e8 e9
    subst e7
    subst e9
    have hl : i < cs.length := by rw [h1]; omega
    have hcell : w.cell? ⟨g, o + i, none⟩ = some (cs.getD i undef) := by
      rw [e6 i _ (List.getElem?_eq_getElem hl)]; simp [List.getD, List.getElem?_eq_getElem hl]
    refine ⟨g, o, _, rfl, e2, hcell, (e5 i (by omega)).2, by simpa using h1, h2, .inr ⟨g, o, c, rfl, e2, e3, by simpa [World.setCell] using e4, fun j hj => ?_, fun j x hx => ?_⟩⟩
    · rw [World.frozen?_setCell]
      refine ⟨?_, (e5 j hj).2⟩
      by_cases hji : j = i
      · subst hji
        rw [World.cell?_setCell_same w _ u hcell]; rfl
      · rw [World.cell?_setCell_other w _ _ u (by intro e; injection e; omega)]
        exact (e5 j hj).1
    · by_cases hji : j = i
      · subst hji
        rw [List.getElem?_set_self hl] at hx
        injection hx with hx
        subst hx
        exact World.cell?_setCell_same w _ u hcell
      · rw [List.getElem?_set_ne (by omega)] at hx
        rw [World.cell?_setCell_other w _ _ u (by intro e; injection e; omega)]
        exact e6 j x hx

section
variable {P : Program} {w : World} {ops : Array Oper} {rest : List Oper} {o : Oper} {a : Act} {Q : Exit → Act → World → Prop}
/-- make: a row of so many zero values, of one cell each. -/
theorem wpList_mk {t e : TypeId} {bytes : Nat} (hT : SlT P t e 1 bytes) {z : Value} (hz : (P.info? e).map (·.zero) = some (some z)) (hz1 : z.cells = #[z]) (hgd : o.guard = none) (l c : Operand) (ho : o.op = Op.makeSlice t l c)
    {kl kc : IntKind} {L C : Int} {n : Nat} (hl : a.eval l = .int kl L) (hc : a.eval c = .int kc C) (hL : L = (n : Int)) (hC : C = (n : Int)) (hb : bytes * n ≤ 281474976710656) (hn : n ≤ 9223372036854775807)
    (h : ∀ w', Row w' 1 (.slice (some ⟨w.heap.size, 0, none⟩) n n) (some w.heap.size) n (List.replicate n z) → Fr No w w' → wpList P ops Q rest (a.put o.dst (.slice (some ⟨w.heap.size, 0, none⟩) n n)) w') :
    wpList P ops Q (o :: rest) a w := by
  obtain ⟨i, z', hi, hz', h2, h3, h4⟩ := hT.info
  rw [hi] at hz
  simp only [Option.map_some, Option.some.injEq] at hz
  rw [hz'] at hz
  injection hz with hz
  subst hz
  refine wpList_make_full w hgd l c t ho w.heap.size e i z' 1 hT.und hi hz' h2 kl kc L C n hl hc hL hC (by rw [h3]; exact hb) (by unfold maxLen; omega) (Nat.le_refl _) (fun w' ho hg => ?_)
  have hrow := Row.of_owns ho
  refine h w' ?_ ((Fr.grown hg).mono (fun k _ h => by cases h))
  rw [hz1, Nat.mul_one, toList_madeCells_one] at hrow
  exact hrow
end

/-- A string of bytes, behind a name. -/
def mkS (xs : List UInt8) : ByteArray := ⟨xs.toArray⟩
theorem mkS_toList (xs : List UInt8) : (mkS xs).toList = xs := by rw [Lib.toList_data]; rfl
theorem conv_bytes {P : Program} {t s : TypeId} {e : TypeId} {bytes : Nat} (hT : SlT P t e 1 bytes) (he : P.underlying e = some (.int .u8)) (hs : P.underlying s = some .string) {W : World} {A : Option Addr} {xs : List UInt8} (h : Rd B W A xs) (n c : Nat) (hn : xs.length = n) :
    (convert t s (.slice A n c)).run P W = .ok (.string (mkS xs)) W := by
  subst hn
  rw [run_convert_bytes_string W t s e A _ c hT.und he hs]
  rcases A with _ | a
  · have : xs = [] := by
      rcases xs with _ | ⟨x, xs⟩
      · rfl
      · obtain ⟨ad, h, _⟩ := h (by simp)
        cases h
    subst this
    simp [Conv.bytesToString, mkS]
    rfl
  · have hl : (loadCells a xs.length).run P W = .ok ((xs.map fun b => (b.toNat : Int)).map (Value.int .u8)).toArray W := by
      have := run_loadCells_list (P := P) W a (xs.map B) (fun j v hj => by
        obtain ⟨hl, rfl⟩ := List.getElem?_eq_some_iff.1 hj
        obtain ⟨ad, e, hc⟩ := h (by simp at hl; omega)
        injection e with e
        subst e
        rw [hc j (by simpa using hl)]
        simp)
      rw [List.length_map] at this
      rw [this, List.map_map]
      rfl
    rw [run_bytesToString W a _ c _ hl, foldl_push_bytes]
    congr 2
    unfold mkS
    simp only [List.map_map]
    have e : (fun n : Int => UInt8.ofNat n.toNat) ∘ (fun b : UInt8 => (b.toNat : Int)) = id := by
      funext b
      simp
    rw [e]
    simp [ByteArray.empty, ByteArray.emptyWithCapacity]
    rfl
theorem rd_new {α : Type} (f : α → Value) (w : World) (xs : List α) (e : TypeId) (l : Array Value) (h : l = (xs.map f).toArray) : Rd f (w.alloc (.cells l e)) (some ⟨w.heap.size, 0, none⟩) xs := by
  subst h
  exact Rd.cells.2 (cells_new w _ e)
/-- What a new slice is good for, once: its value, and a bundle that the walk does not look into. -/
theorem New.use {α : Type} {f : α → Value} {w w' : World} {v : Value} {xs : List α} (h : New f w w' v xs) :
    ∃ A n c, v = .slice A n c ∧ Hid (xs.length = n ∧ Rd f w' A xs ∧ n ≤ c ∧ Fr No w w' ∧ ∃ ob, Row w' 1 (.slice A n c) ob n (xs.map f) ∧ ∀ k, ob = some k → w.heap.size ≤ k) := by
  obtain ⟨A, n, c, ob, h1, h2, h3, h4, h5⟩ := h.open
  exact ⟨A, n, c, h1, h2, h3.rd.1, h3.rd.2.1, h5, ob, h3, h4⟩
theorem NewR.use {α : Type} {f : α → Value} {w w' : World} {v : Value} {xs : List α} (h : NewR f w w' v xs) :
    ∃ A n c, v = .slice A n c ∧ Hid (xs.length = n ∧ Rd f w' A xs ∧ n ≤ c ∧ ∃ ob, Row w' 1 (.slice A n c) ob n (xs.map f) ∧ ∀ k, ob = some k → w.heap.size ≤ k) := by
  obtain ⟨A, n, c, ob, h1, h2, h3, h4⟩ := h
  exact ⟨A, n, c, h1, h2, h3.rd.1, h3.rd.2.1, ob, h3, h4⟩
theorem cellAt {w : World} {ad : Addr} {i j : Nat} {v : Option Value} (h : w.cell? (ad.add (i + (j + 1))) = v) : w.cell? ⟨(ad.add i).block, (ad.add i).off + (j + 1), none⟩ = v := by
  rw [← h, ← add_add]
  rfl
theorem farOf {w' : World} {sz n c m : Nat} {A : Option Addr} {cs : List Value} (h : ∃ ob, Row w' sz (.slice A n c) ob n cs ∧ ∀ k, ob = some k → m ≤ k) : ∀ ad, A = some ad → m ≤ ad.block := by
  obtain ⟨ob, h1, h2⟩ := h
  intro ad e
  obtain ⟨A', c', e', _, _, h3⟩ := h1.cells
  injection e' with e1 _ _
  subst e1
  exact h2 _ (h3 ad e)
end Go.Proofs.HK
