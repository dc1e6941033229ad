/- append, where the row may pass 2^47 bytes: as long as a quarter more than it has stays below 2^48. No program in sight. -/
import Derived.Test.YtdbbkdlocmafgaaMem
import Derived.Deep.DeepAppendWide
namespace Go.Proofs.HK
open Go.RowKit
section
variable {P : Program} (w : World)
theorem run_append_arg_growsW (t ty e : TypeId) (i : TypeInfo) (z : Value) (sz bytes : Nat) (ht : P.underlying t = some (.slice e)) (hi : P.info? e = some i) (hz : i.zero = some z)
    (hsize : i.size = sz) (hby : i.bytes = bytes) (hzs : z.cells.size = sz) (hsz : 0 < sz)
    (b : Addr) (n cap : Nat) (olds : List Value) (hlo : olds.length = n * sz) (holds : ∀ (j : Nat) (u : Value), olds[j]? = some u → w.cell? (b.add j) = some u)
    (a : Addr) (m c : Nat) (news : List Value) (hl : news.length = m * sz) (hnews : ∀ (j : Nat) (u : Value), news[j]? = some u → w.cell? (a.add j) = some u)
    (hg : cap < n + m) (h63 : n + m ≤ maxLen) (hb : ((n + m) + (n + m) / 4 + 192) * bytes ≤ 281474976710656) :
    ∃ v' w', (Builtin.append_ #[t, t] ty #[.slice (some b) n cap, .slice (some a) m c]).run P w = .ok v' w' ∧ w'.ownsRow w.heap.size e sz v' (n + m) (olds ++ news) ∧ w.grownBy w' none := by
  subst hsize
  subst hby
  have hs : n + m ≤ 9223372036854775807 := by simp only [maxLen] at h63; omega
  have hr := run_append_grow (P := P) w t ty e i z ht hi hz b n cap olds hlo holds a m c news hl hnews hg (by omega) (growslice_fits_wide hg hb)
  have hlen : (olds ++ news).length = (n + m) * i.size := by rw [List.length_append, hlo, hl, Nat.add_mul]
  have hge := grownCap_ge w (n + m) cap e
  refine ⟨_, _, hr, ⟨hlen, .inr ⟨w.heap.size, _, _, rfl, Nat.le_refl _, heap_alloc_new w.drew _, hge, grownCap_le_maxLen w (n + m) cap e h63, ?_, ?_⟩⟩, ⟨rfl, rfl, rfl, by simp, fun k hk _ => heap_alloc_old w.drew _ hk⟩⟩
  · simp only [Array.size_append, List.size_toArray, size_zeroCells, hzs, hlo, hl, ← Nat.add_mul]
    congr 1
    omega
  · simp only [Array.toList_append, List.append_assoc]
    rw [← List.append_assoc, ← hlen]
    exact List.take_left
/-- append: whatever comes of it, a row of the old elements and the new ones. -/
theorem run_appW (t ty e : TypeId) (i : TypeInfo) (z : Value) (sz bytes : Nat) (ht : P.underlying t = some (.slice e)) (hi : P.info? e = some i) (hz : i.zero = some z)
    (hsize : i.size = sz) (hby : i.bytes = bytes) (hzs : z.cells.size = sz) (hsz : 0 < sz)
    (v : Value) (ob : Option Nat) (n : Nat) (xs : List Value) (hv : Row w sz v ob n xs)
    (A : Option Addr) (m c : Nat) (ys : List Value) (hl : ys.length = m * sz) (hx : Cells w A ys) (h1 : ∀ u ∈ ys, u.oneCell' = true)
    (hb : ((n + m) + (n + m) / 4 + 192) * bytes ≤ 281474976710656) (hnm : n + m ≤ 9223372036854775807) :
    ∃ v' w' ob', (Builtin.append_ #[t, t] ty #[v, .slice A m c]).run P w = .ok v' w' ∧ Row w' sz v' ob' (n + m) (xs ++ ys) ∧ Fr (Opt ob) w w' ∧ (ob' = ob ∨ ∃ k, ob' = some k ∧ w.heap.size ≤ k) := by
  rcases Nat.eq_zero_or_pos m with hm | hm
  · subst hm
    have hy : ys = [] := List.eq_nil_of_length_eq_zero (by simpa using hl)
    subst hy
    refine ⟨v, w, ob, ?_, by simpa using hv, Fr.refl _ _, .inl rfl⟩
    rcases hv.2.2 with ⟨rfl, rfl, rfl⟩ | ⟨g, o, cap, rfl, rfl, e3, e4, e5, e6⟩
    · cases A <;> simp [Builtin.append_, run_underlying ht, sizeOf, typeInfo, hi, Builtin.lenOf, Builtin.firstCells, loadCells, loadCellsFrom]
    · cases A <;> simp [Builtin.append_, run_underlying ht, sizeOf, typeInfo, hi, Builtin.lenOf, Builtin.firstCells, loadCells, loadCellsFrom, e3, storeCells]
  · obtain ⟨ad, rfl, hc⟩ := hx (by rw [hl]; exact Nat.mul_pos hm hsz)
    obtain ⟨hv1, hv2, hv3⟩ := hv
    rcases hv3 with ⟨rfl, rfl, rfl⟩ | ⟨g, o, cap, rfl, rfl, e3, e4, e5, e6⟩
    · have hxs : xs = [] := List.eq_nil_of_length_eq_zero (by simpa using hv1)
      subst hxs
      have hr := run_append_own_wide (P := P) w w.heap.size t ty e i z sz bytes ht hi hz hsize hby hzs hsz (.slice none 0 0) 0 [] (World.ownsRow_nil w _ e sz) ad m c ys hl hc h1 (by unfold maxLen; omega) hb (Nat.le_refl _)
      obtain ⟨v', w', hrun, ho, hg, _⟩ := hr
      have hgb : w.grownBy w' none := hg
      refine ⟨v', w', v'.ownBlock, hrun, Row.of_owns ho, Fr.grown hgb, ?_⟩
      rcases hk : v'.ownBlock with _ | k
      · exact .inl rfl
      · exact .inr ⟨k, rfl, by
          rcases ho.2 with ⟨rfl, _⟩ | ⟨g', cap', cur, rfl, hb', _⟩
          · simp [Value.ownBlock] at hk
          · simp [Value.ownBlock] at hk; omega⟩
    · by_cases hroom : n + m ≤ cap
      · subst hsize
        have hle : (n + m) * i.size ≤ cap * i.size := Nat.mul_le_mul_right _ hroom
        rw [Nat.add_mul] at hle
        have hr := run_append_room_cells (P := P) w t ty e i ht hi g o n cap ad m c ys hl hc h1 hroom
          (fun j hj => by rw [Nat.add_assoc]; exact (e5 _ (by omega)).1) (fun j hj => by rw [Nat.add_assoc]; exact (e5 _ (by omega)).2)
        refine ⟨_, _, some g, hr, ⟨by rw [List.length_append, hv1, hl, Nat.add_mul], hnm, .inr ⟨g, o, cap, rfl, rfl, hroom, by rw [size_setCells]; exact e4, fun j hj => ?_, fun j u hu => ?_⟩⟩, ?_, .inl rfl⟩
        · rw [World.frozen?_setCells]
          refine ⟨?_, (e5 j hj).2⟩
          by_cases hin : n * i.size ≤ j ∧ j < n * i.size + ys.length
          · have := World.cell?_setCells_in g ys (o + n * i.size) w (fun q hq => by rw [Nat.add_assoc]; exact (e5 _ (by omega)).1) (j - n * i.size) (by omega)
            rw [show o + n * i.size + (j - n * i.size) = o + j by omega] at this
            rw [this]; rfl
          · rw [World.cell?_setCells_out g ys _ _ _ (fun _ _ => by show o + j < _ ∨ _ ≤ o + j; omega)]
            exact (e5 j hj).1
        · by_cases hin : j < n * i.size
          · rw [List.getElem?_append_left (by omega)] at hu
            rw [World.cell?_setCells_out g ys _ _ _ (fun _ _ => by show o + j < _ ∨ _ ≤ o + j; omega)]
            exact e6 j u hu
          · rw [List.getElem?_append_right (by omega), hv1] at hu
            obtain ⟨hlt, rfl⟩ := List.getElem?_eq_some_iff.1 hu
            have := World.cell?_setCells_in g ys (o + n * i.size) w (fun q hq => by rw [Nat.add_assoc]; exact (e5 _ (by omega)).1) (j - n * i.size) hlt
            rw [show o + n * i.size + (j - n * i.size) = o + j by omega] at this
            exact this
        · obtain ⟨q1, q2, q3⟩ := os_setCells g ys (o + n * i.size) w
          exact ⟨q1, q2, q3, by rw [size_setCells]; exact Nat.le_refl _, fun k hk hn => heap_setCells g ys _ w k (fun e => hn (by rw [e]; exact rfl))⟩
      · have hr := run_append_arg_growsW (P := P) w t ty e i z sz bytes ht hi hz hsize hby hzs hsz ⟨g, o, none⟩ n cap xs hv1 (fun j u hu => by rw [add_lit]; exact e6 j u hu) ad m c ys hl hc (by omega) (by unfold maxLen; omega) hb
        obtain ⟨v', w', hrun, ho, hg⟩ := hr
        refine ⟨v', w', v'.ownBlock, hrun, Row.of_owns ho, (Fr.grown hg).mono (fun k _ h => by cases h), ?_⟩
        rcases ho.2 with ⟨rfl, h0⟩ | ⟨g', cap', cur, rfl, hb', _⟩
        · omega
        · exact .inr ⟨g', rfl, hb'⟩
end


section
variable {P : Program} {w : World} {ops : Array Oper} {rest : List Oper} {o : Oper} {a : Act} {Q : Exit → Act → World → Prop}
theorem wpList_appW {t e : TypeId} {sz bytes : Nat} (hT : SlT P t e sz bytes) (hgd : o.guard = none) (s x : Operand)
    (ho : o.op = .call { callee := .builtin .append, args := #[s, x], argTypes := #[t, t] })
    {v : Value} {ob : Option Nat} {n : Nat} {xs : List Value} (hs : a.eval s = v) (hv : Row w sz v ob n xs)
    {A : Option Addr} {m c : Nat} {ys : List Value} (hx : a.eval x = .slice A m c) (hl : ys.length = m * sz) (hc : Cells w A ys) (h1 : ∀ u ∈ ys, u.oneCell' = true)
    (hb : ((n + m) + (n + m) / 4 + 192) * bytes ≤ 281474976710656) (hnm : n + m ≤ 9223372036854775807)
    (h : ∀ A' c' w' ob', Row w' sz (.slice A' (n + m) c') ob' (n + m) (xs ++ ys) → Fr (Opt ob) w w' → (ob' = ob ∨ ∃ k, ob' = some k ∧ w.heap.size ≤ k) → wpList P ops Q rest (a.put o.dst (.slice A' (n + m) c')) w') :
    wpList P ops Q (o :: rest) a w := by
  obtain ⟨i, z, hi, hz, h2, h3, h4⟩ := hT.info
  obtain ⟨v', w', ob', hr, k1, k2, k3⟩ := run_appW (P := P) w t o.type e i z sz bytes hT.und hi hz h2 h3 h4 hT.pos v ob n xs hv A m c ys hl hc h1 hb hnm
  refine wpList_plain hgd fun K hK => ?_
  unfold Oper.wp execOp
  simp only [ho, resolve, invoke, builtin, Sem.run_bind, Sem.run_pure, Result.andThen_ok, List.map_toArray, List.map_cons, List.map_nil, hs, hx, hr]
  obtain ⟨A', c', rfl, _⟩ := k1.cells
  exact hK _ _ (h A' c' w' ob' k1 k2 k3)
end
end Go.Proofs.HK
