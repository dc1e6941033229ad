/- The contracts of layer 1, bits: the reader and the writer as numbers. -/
import Derived.Test.YtjmgffiplkkgpaaProg
import Derived.Test.YtjmgffiplkkgpaaMem
import Derived.Test.YtjmgffiplkkgpaaBitsP
namespace Go.Proofs.Ytjmgffiplkkgpaa
open Go.RowKit Go.Proofs.HK
set_option linter.unusedVariables false
set_option linter.unusedSimpArgs false
attribute [local go_sem] max2_int min2_int max_two min_two

theorem slB : SlT Try.prog 22 5 1 1 := SlT.of (z := .int .u8 0) Try.underlying22 (by kernel_rfl) rfl (by decide)

/-- A reader at g, whose bytes bs lie in ob; off bits of the first one are gone. -/
structure Rdr (w : World) (g : Nat) (ob : Option Nat) (bs : List UInt8) (off : Nat) : Prop where
  blk : ∃ A n c, bs.length = n ∧ w.heap[g]? = some (.cells #[.slice A n c, .int .i64 off] 76 (0, 0)) ∧ Row w 1 (.slice A n c) ob n (bs.map B)
  ne : ob ≠ some g
  off8 : off < 8
  nil : bs = [] → off = 0
  len : bs.length ≤ 140737488355328
theorem Rdr.lt {w : World} {g : Nat} {ob : Option Nat} {bs : List UInt8} {off : Nat} (h : Rdr w g ob bs off) : g < w.heap.size := by
  obtain ⟨A, n, c, _, hb, _⟩ := h.blk
  exact (Array.getElem?_eq_some_iff.1 hb).1
theorem Rdr.olt {w : World} {g : Nat} {ob : Option Nat} {bs : List UInt8} {off : Nat} (h : Rdr w g ob bs off) : ∀ k, ob = some k → k < w.heap.size := by
  obtain ⟨A, n, c, _, hb, hr⟩ := h.blk
  exact fun k hk => hr.lt hk
theorem Rdr.cells {w : World} {g : Nat} {ob : Option Nat} {bs : List UInt8} {off : Nat} (h : Rdr w g ob bs off) : ∃ A n c, bs.length = n ∧ w.cell? ⟨g, 0, none⟩ = some (.slice A n c) ∧ w.cell? ⟨g, 1, none⟩ = some (.int .i64 off) ∧
    w.frozen? ⟨g, 0, none⟩ = false ∧ w.frozen? ⟨g, 1, none⟩ = false ∧ Row w 1 (.slice A n c) ob n (bs.map B) ∧ w.heap[g]? = some (.cells #[.slice A n c, .int .i64 off] 76 (0, 0)) := by
  obtain ⟨A, n, c, hn, hb, hr⟩ := h.blk
  exact ⟨A, n, c, hn, by simp [World.cell?, hb], by simp [World.cell?, hb], by simp [World.frozen?, hb], by simp [World.frozen?, hb], hr, hb⟩
theorem Rdr.fr {S : Nat → Prop} {w w' : World} {g : Nat} {ob : Option Nat} {bs : List UInt8} {off : Nat} (h : Rdr w g ob bs off) (hf : Fr S w w') (hg : ¬ S g) (ho : ∀ k, ob = some k → ¬ S k) : Rdr w' g ob bs off := by
  obtain ⟨A, n, c, hn, hb, hr⟩ := h.blk
  exact ⟨⟨A, n, c, hn, (hf.block g h.lt hg).trans hb, hr.fr hf ho⟩, h.ne, h.off8, h.nil, h.len⟩
theorem Rdr.le8 {w : World} {g : Nat} {ob : Option Nat} {bs : List UInt8} {off : Nat} (h : Rdr w g ob bs off) : off ≤ 8 * bs.length := by
  by_cases e : bs = []
  · rw [h.nil e]; omega
  · have := h.off8
    have : 0 < bs.length := List.length_pos_iff.2 e
    omega

/-- .. by the number of its bits, and how many they are. -/
def RdV (w : World) (g : Nat) (ob : Option Nat) (V T : Nat) : Prop := ∃ bs off, Rdr w g ob bs off ∧ rV bs off = V ∧ rT bs off = T
theorem RdV.lt {w : World} {g : Nat} {ob : Option Nat} {V T : Nat} (h : RdV w g ob V T) : g < w.heap.size := by
  obtain ⟨bs, off, h, _⟩ := h; exact h.lt
theorem RdV.olt {w : World} {g : Nat} {ob : Option Nat} {V T : Nat} (h : RdV w g ob V T) : ∀ k, ob = some k → k < w.heap.size := by
  obtain ⟨bs, off, h, _⟩ := h; exact h.olt
theorem RdV.ne {w : World} {g : Nat} {ob : Option Nat} {V T : Nat} (h : RdV w g ob V T) : ob ≠ some g := by
  obtain ⟨bs, off, h, _⟩ := h; exact h.ne
theorem RdV.fr {S : Nat → Prop} {w w' : World} {g : Nat} {ob : Option Nat} {V T : Nat} (h : RdV w g ob V T) (hf : Fr S w w') (hg : ¬ S g) (ho : ∀ k, ob = some k → ¬ S k) : RdV w' g ob V T := by
  obtain ⟨bs, off, h, e⟩ := h
  exact ⟨bs, off, h.fr hf hg ho, e⟩
theorem RdV.T_le {w : World} {g : Nat} {ob : Option Nat} {V T : Nat} (h : RdV w g ob V T) : T ≤ 1125899906842624 := by
  obtain ⟨bs, off, h, _, e⟩ := h
  have := h.len
  unfold rT at e
  omega
theorem RdV.V_lt {w : World} {g : Nat} {ob : Option Nat} {V T : Nat} (h : RdV w g ob V T) : V < 2 ^ T := by
  obtain ⟨bs, off, h, e1, e2⟩ := h
  rw [← e1, ← e2]
  exact rV_lt bs off h.le8

theorem bnew_calls (w : World) : Calls Try.prog 20 #[] w fun e w' => ∃ g, e = .returned (.pointer (some ⟨g, 0, none⟩)) ∧ w.heap.size ≤ g ∧ RdV w' g none 0 0 ∧ Fr No w w' := by
  go_enter Try.func20, Try.ntmps20
  go_wp2
  go_ret
  exact ⟨_, rfl, Nat.le_refl _, ⟨[], 0, ⟨⟨none, 0, 0, rfl, heap_new _ _, Row.nil _ _⟩, by simp, by omega, fun _ => rfl, by simp⟩, rfl, rfl⟩, (Fr.refl _ _).alloc _⟩

def RF (g : Nat) (ob : Option Nat) : Nat → Prop := fun k => k = g ∨ some k = ob
theorem feed_nil (w : World) (A : Option Addr) (n c : Nat) : Calls Try.prog 21 #[.pointer none, .slice A n c] w fun e w' => e = .returned (.tuple #[]) ∧ w' = w := by
  go_enter Try.func21, Try.ntmps21
  go_wp2
  go_end0
  exact ⟨rfl, rfl⟩
theorem feed_calls (w : World) (g : Nat) (ob : Option Nat) (V T : Nat) (h : RdV w g ob V T) (A : Option Addr) (ys : List UInt8) (n c : Nat) (hn : ys.length = n) (hr : Rd B w A ys) (hl : T + 8 * n ≤ 1125899906842000) :
    Calls Try.prog 21 #[.pointer (some ⟨g, 0, none⟩), .slice A n c] w fun e w' => e = .returned (.tuple #[]) ∧
      ∃ ob', RdV w' g ob' (V + 2 ^ T * le ys) (T + 8 * n) ∧ (ob' = ob ∨ ∃ k, ob' = some k ∧ w.heap.size ≤ k) ∧ Fr (RF g ob) w w' := by
  obtain ⟨bs, off, h, rfl, rfl⟩ := h
  have h8 := h.le8
  have hlen : bs.length + n ≤ 140737488355328 := by have := h.off8; unfold rT at hl; omega
  obtain ⟨A0, n0, c0, hn0, h0, h1, f0, f1, hrow, hb⟩ := h.cells
  have HR := hid (And.intro hrow (And.intro hr (And.intro h hb)))
  have hlen' : n0 + n ≤ 140737488355328 := by omega
  have hg := h.lt
  have hne := h.ne
  clear hrow hr h hb hl
  go_enter Try.func21, Try.ntmps21
  go_wp2_with (at_builtin; refine wpList_app slB rfl (.tmp 10) (.tmp 11) rfl rfl HR.out.1 rfl (by rw [List.length_map, hn, Nat.mul_one]) (Rd.cells.1 HR.out.2.1) (oneB ys) (by omega) (by omega) ?_; intro A1 c1 w1 ob1 hv1 hf1 hob1; have f0' := (hf1.frozen (p := ⟨g, 0, none⟩) hg (fun e => hne e.symm)).trans f0; have h0' := (hf1.cellg g 0 hg (fun e => hne e.symm)).trans h0)
  go_end0
  have hR := HR.out.2.2.1
  have hfF : Fr (RF g ob) w (w1.setCell ⟨g, 0, none⟩ (.slice A1 (n0 + n) c1)) := (hf1.mono (fun k _ e => .inr e)).trans (Fr.set1 _ _ _ _) (fun k _ e => .inl e)
  have hob1g : ob1 ≠ some g := by
    rcases hob1 with e | ⟨k, e, hk⟩
    · rw [e]; exact hne
    · rw [e]; intro e2; injection e2 with e2; omega
  refine ⟨rfl, ob1, ⟨bs ++ ys, off, ⟨⟨A1, n0 + n, c1, by rw [List.length_append]; omega, ?_, ?_⟩, hob1g, hR.off8, ?_, by rw [List.length_append]; omega⟩, ?_, ?_⟩, hob1, hfF⟩
  · rw [heap_set w1 g 0 _ _ _ ((hf1.block g hg (fun e => hne e.symm)).trans HR.out.2.2.2)]; rfl
  · rw [List.map_append]
    exact hv1.fr (Fr.set1 _ _ _ _) (fun k hk (e : k = g) => hob1g (by rw [hk, e]))
  · intro e
    exact hR.nil (List.append_eq_nil_iff.1 e).1
  · exact rV_feed bs ys off h8
  · rw [rT_feed bs ys off h8, hn]

theorem have_nil (w : World) : Calls Try.prog 23 #[.pointer none] w fun e w' => e = .returned (.int .i64 0) ∧ ∃ n, w' = w.drewN n := by
  go_enter Try.func23, Try.ntmps23
  go_wp2
  go_ret
  exact ⟨rfl, 0, rfl⟩
theorem have_calls (w : World) (g : Nat) (ob : Option Nat) (V T : Nat) (h : RdV w g ob V T) : Calls Try.prog 23 #[.pointer (some ⟨g, 0, none⟩)] w fun e w' => e = .returned (.int .i64 T) ∧ ∃ n, w' = w.drewN n := by
  obtain ⟨bs, off, h, rfl, rfl⟩ := h
  have h8 := h.le8
  have hlen := h.len
  obtain ⟨A0, n0, c0, hn0, h0, h1, f0, f1, hrow, hb⟩ := h.cells
  have hT : ((rT bs off : Nat) : Int) = 8 * (n0 : Int) - off := by unfold rT; omega
  have HT := hid hT
  have hn0' : n0 ≤ 140737488355328 := by omega
  have ho8 := h.off8
  clear hrow h hb hT hlen h8 hn0
  go_enter Try.func23, Try.ntmps23
  go_wp2
  go_quiet (fail)
  go_wp2
  go_ret
  exact ⟨ri HT.out.symm, _, rfl⟩


theorem Row_cut {w : World} {A : Option Addr} {n c : Nat} {ob : Option Nat} {cs : List Value} (h : Row w 1 (.slice A n c) ob n cs) (l : Nat) (hl : l ≤ n) :
    Row w 1 (.slice (cutA A c l 1) (n - l) (c - l)) ob (n - l) (cs.drop l) := by
  obtain ⟨h1, h2, h3⟩ := h
  refine ⟨by rw [List.length_drop, h1]; omega, by omega, ?_⟩
  rcases h3 with ⟨e, h0, e0⟩ | ⟨g, o, cap, e, e2, e3, e4, e5, e6⟩
  · injection e with e7 e8 e9
    subst e7
    subst e9
    refine .inl ⟨?_, by omega, e0⟩
    unfold cutA
    have : n - l = 0 := by omega
    have h2 : 0 - l = 0 := by omega
    rw [this, h2]
    split <;> rfl
  · injection e with e7 e8 e9
    subst e7
    subst e9
    by_cases hc : c = l
    · refine .inr ⟨g, o, c - l, by unfold cutA; rw [if_pos hc], e2, by omega, e4, fun j hj => by omega, fun j u hu => ?_⟩
      rw [List.drop_eq_nil_of_le (by omega)] at hu
      cases hu
    · refine .inr ⟨g, o + l, c - l, by unfold cutA; rw [if_neg hc, Option.map_some, Nat.mul_one, add_lit], e2, by omega, e4, fun j hj => ?_, fun j u hu => ?_⟩
      · rw [Nat.add_assoc]
        exact e5 (l + j) (by omega)
      · rw [Nat.add_assoc]
        exact e6 (l + j) u (by rw [← hu, List.getElem?_drop])
set_option maxRecDepth 100000 in
theorem skip_calls (w : World) (g : Nat) (ob : Option Nat) (V T : Nat) (h : RdV w g ob V T) (n : Nat) (hn : n ≤ T) :
    Calls Try.prog 60 #[.pointer (some ⟨g, 0, none⟩), .int .i64 n] w fun e w' => e = .returned (.tuple #[]) ∧ RdV w' g ob (V / 2 ^ n) (T - n) ∧ Fr (One g) w w' := by
  obtain ⟨bs, off, h, rfl, rfl⟩ := h
  have h8 := h.le8
  have hlen := h.len
  obtain ⟨A0, n0, c0, hn0, h0, h1, f0, f1, hrow, hb⟩ := h.cells
  have hcap := hrow.rd.2.1
  have ho8 := h.off8
  have hq : (n + off) / 8 ≤ n0 := by unfold rT at hn; omega
  have hsl := cut_l slB A0 n0 c0 (((n : Int) + (off : Int)) / 8) ((n + off) / 8) (by omega) hq
  have hand : bits .and .i64 ((n : Int) + (off : Int)) 7 = (((n + off) % 8 : Nat) : Int) := by
    have := (bits_nat .i64 62 (by decide) (fun n a b => w64 n a (by omega)) (n + off) 7 (by unfold rT at hn; omega) (by decide)).1
    rw [show ((n : Int) + (off : Int)) = ((n + off : Nat) : Int) by omega]
    refine this.trans ?_
    rw [Nat.and_two_pow_sub_one_eq_mod _ 3]
  have hdiv : ((n : Int) + (off : Int)) / 8 = (((n + off) / 8 : Nat) : Int) := by omega
  have hb2 : (n : Int) + (off : Int) ≤ 1125899906842624 := by unfold rT at hn; omega
  have HR := hid (And.intro hrow (And.intro h hb))
  have HH := hid (And.intro hn hn0)
  have hw : IntKind.i64.wrap ((n : Int) + (off : Int)) = (n : Int) + (off : Int) := w64 _ (by omega) (by omega)
  have hd := hid hdiv
  clear hrow h hb hn0 hn hb2 hlen h8 hq hcap hdiv
  go_enter Try.func60, Try.ntmps60
  go_wp2_with fail
  go_end0
  have hRdr := HR.out.2.1
  have hn := HH.out.1
  have hlen := HH.out.2
  have hq : (n + off) / 8 ≤ n0 := by unfold rT at hn; omega
  obtain ⟨r1, r2, r3, r4⟩ := HR.out.1.rd
  have hcells := HR.out.2.2
  have hgne : ∀ k, ob = some k → ¬ One g k := fun k hk e => hRdr.ne (by rw [hk, e])
  refine ⟨rfl, ?_, (Fr.set1 _ _ _ _).then (Fr.set1 _ _ _ _)⟩
  refine ⟨bs.drop ((n + off) / 8), (n + off) % 8, ⟨⟨cutA A0 c0 ((n + off) / 8) 1, n0 - (n + off) / 8, c0 - (n + off) / 8, by rw [List.length_drop]; omega, ?_, ?_⟩, hRdr.ne, Nat.mod_lt _ (by decide), ?_, by have := hRdr.len; rw [List.length_drop]; omega⟩, rV_skip _ _ _, rT_skip _ _ _⟩
  · rw [heap_set _ g 1 _ _ _ (heap_set w g 0 _ _ _ hcells), show ((n : Int) + (off : Int)) % 8 = (((n + off) % 8 : Nat) : Int) by omega]; rfl
  · have := Row_cut HR.out.1 ((n + off) / 8) hq
    rw [← List.map_drop] at this
    exact (this.fr (Fr.set1 _ _ _ _) hgne).fr (Fr.set1 _ _ _ _) hgne
  · intro e
    have h8 := hRdr.le8
    have := List.drop_eq_nil_iff.1 e
    unfold rT at hn
    omega
end Go.Proofs.Ytjmgffiplkkgpaa
