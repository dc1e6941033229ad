/- The contracts of layer 1, bits, third part: the writer. -/
import Derived.Test.YtjmgffiplkkgpaaBits
import Derived.BigRegion
namespace Go.Proofs.Ytjmgffiplkkgpaa
open Go.RowKit Go.Proofs.HK
set_option linter.unusedVariables false
set_option linter.unusedSimpArgs false
attribute [local go_sem] max2_int min2_int max_two min_two

/-- A writer at g, its bytes in ob: the number V of T bits. -/
def WrV (w : World) (g : Nat) (ob : Option Nat) (V T : Nat) : Prop :=
  ∃ bs A n c, bs.length = n ∧ n = (T + 7) / 8 ∧ w.heap[g]? = some (.cells #[.slice A n c, .int .i64 T] 83 (0, 0)) ∧ Row w 1 (.slice A n c) ob n (bs.map B) ∧ le bs = V ∧ V < 2 ^ T ∧ ob ≠ some g ∧ T ≤ 1125899906842600
theorem WrV.lt {w : World} {g : Nat} {ob : Option Nat} {V T : Nat} (h : WrV w g ob V T) : g < w.heap.size := by
  obtain ⟨bs, A, n, c, _, _, hb, _⟩ := h
  exact (Array.getElem?_eq_some_iff.1 hb).1
theorem WrV.olt {w : World} {g : Nat} {ob : Option Nat} {V T : Nat} (h : WrV w g ob V T) : ∀ k, ob = some k → k < w.heap.size := by
  obtain ⟨bs, A, n, c, _, _, hb, hr, _⟩ := h
  exact fun k hk => hr.lt hk
theorem WrV.ne {w : World} {g : Nat} {ob : Option Nat} {V T : Nat} (h : WrV w g ob V T) : ob ≠ some g := by
  obtain ⟨bs, A, n, c, _, _, hb, hr, _, _, h, _⟩ := h
  exact h
theorem WrV.V_lt {w : World} {g : Nat} {ob : Option Nat} {V T : Nat} (h : WrV w g ob V T) : V < 2 ^ T := by
  obtain ⟨bs, A, n, c, _, _, hb, hr, _, h, _⟩ := h
  exact h
theorem WrV.T_le {w : World} {g : Nat} {ob : Option Nat} {V T : Nat} (h : WrV w g ob V T) : T ≤ 1125899906842600 := by
  obtain ⟨bs, A, n, c, _, _, hb, hr, _, _, _, h⟩ := h
  exact h
theorem WrV.fr {S : Nat → Prop} {w w' : World} {g : Nat} {ob : Option Nat} {V T : Nat} (h : WrV w g ob V T) (hf : Fr S w w') (hg : ¬ S g) (ho : ∀ k, ob = some k → ¬ S k) : WrV w' g ob V T := by
  have hlt := h.lt
  obtain ⟨bs, A, n, c, h1, h2, hb, hr, h3⟩ := h
  exact ⟨bs, A, n, c, h1, h2, (hf.block g hlt hg).trans hb, hr.fr hf ho, h3⟩

theorem WrV.cells {w : World} {g : Nat} {ob : Option Nat} {V T : Nat} (h : WrV w g ob V T) : ∃ bs A n c, w.cell? ⟨g, 0, none⟩ = some (.slice A n c) ∧ w.cell? ⟨g, 1, none⟩ = some (.int .i64 T) ∧ w.frozen? ⟨g, 0, none⟩ = false ∧ w.frozen? ⟨g, 1, none⟩ = false ∧
    Hid (bs.length = n ∧ n = (T + 7) / 8 ∧ w.heap[g]? = some (.cells #[.slice A n c, .int .i64 T] 83 (0, 0)) ∧ Row w 1 (.slice A n c) ob n (bs.map B) ∧ le bs = V ∧ V < 2 ^ T ∧ ob ≠ some g ∧ T ≤ 1125899906842600) := by
  obtain ⟨bs, A, n, c, h1, h2, hb, h3⟩ := h
  exact ⟨bs, A, n, c, by simp [World.cell?, hb], by simp [World.cell?, hb], by simp [World.frozen?, hb], by simp [World.frozen?, hb], h1, h2, hb, h3⟩
theorem nw_calls (w : World) : Calls Try.prog 40 #[] w fun e w' => ∃ g, e = .returned (.pointer (some ⟨g, 0, none⟩)) ∧ w.heap.size ≤ g ∧ WrV w' g none 0 0 ∧ Fr No w w' := by
  go_enter Try.func40, Try.ntmps40
  go_wp2
  go_ret
  exact ⟨_, rfl, Nat.le_refl _, ⟨[], none, 0, 0, rfl, rfl, heap_new _ _, Row.nil _ _, rfl, by decide, by simp, by omega⟩, (Fr.refl _ _).alloc _⟩
theorem wlen_nil (w : World) : Calls Try.prog 44 #[.pointer none] w fun e w' => e = .returned (.int .i64 0) ∧ w' = w := by
  go_enter Try.func44, Try.ntmps44
  go_wp2_with fail
  go_ret
  exact ⟨rfl, rfl⟩
theorem wlen_calls (w : World) (g : Nat) (ob : Option Nat) (V T : Nat) (h : WrV w g ob V T) : Calls Try.prog 44 #[.pointer (some ⟨g, 0, none⟩)] w fun e w' => e = .returned (.int .i64 T) ∧ w' = w := by
  obtain ⟨bs, A, n, c, h1, h2, hb, _⟩ := h
  have h1 : w.cell? ⟨g, 1, none⟩ = some (.int .i64 T) := by simp [World.cell?, hb]
  clear hb h2
  go_enter Try.func44, Try.ntmps44
  go_wp2_with fail
  go_ret
  exact ⟨rfl, rfl⟩
theorem walign_nil (w : World) : Calls Try.prog 41 #[.pointer none] w fun e w' => e = .returned (.tuple #[]) ∧ w' = w := by
  go_enter Try.func41, Try.ntmps41
  go_wp2_with fail
  go_end0
  exact ⟨rfl, rfl⟩
theorem walign_calls (w : World) (g : Nat) (ob : Option Nat) (V T : Nat) (h : WrV w g ob V T) (hT : T ≤ 1125899906842000) : Calls Try.prog 41 #[.pointer (some ⟨g, 0, none⟩)] w fun e w' => e = .returned (.tuple #[]) ∧ WrV w' g ob V (8 * ((T + 7) / 8)) ∧ Fr (One g) w w' := by
  obtain ⟨bs, A, n, c, h1, h2, hb, hr, hV, hlt, hne, hle⟩ := h
  have q0 : w.cell? ⟨g, 0, none⟩ = some (.slice A n c) := by simp [World.cell?, hb]
  have q1 : w.cell? ⟨g, 1, none⟩ = some (.int .i64 T) := by simp [World.cell?, hb]
  have q2 : w.frozen? ⟨g, 1, none⟩ = false := by simp [World.frozen?, hb]
  have h8 : IntKind.i64.wrap (8 * (n : Int)) = 8 * (n : Int) := w64 _ (by omega) (by omega)
  have HH := hid (And.intro h1 (And.intro h2 (And.intro hb (And.intro hr (And.intro hV (And.intro hlt hne))))))
  clear h1 h2 hb hr hV hlt hne
  go_enter Try.func41, Try.ntmps41
  go_wp2_with fail
  go_end0
  obtain ⟨h1, h2, hb, hr, hV, hlt, hne⟩ := HH.out
  refine ⟨rfl, ⟨bs, A, n, c, h1, by omega, ?_, hr.fr (Fr.set1 _ _ _ _) (fun k hk (e : k = g) => hne (by rw [hk, e])), hV, Nat.lt_of_lt_of_le hlt (Nat.pow_le_pow_right (by decide) (by omega)), hne, by omega⟩, Fr.set1 _ _ _ _⟩
  rw [heap_set _ g 1 _ _ _ hb, show (8 : Int) * (n : Int) = ((8 * ((T + 7) / 8) : Nat) : Int) by omega]; rfl
theorem out_nil (w : World) : Calls Try.prog 45 #[.pointer none] w fun e w' => e = .returned (.slice none 0 0) ∧ w' = w := by
  go_enter Try.func45, Try.ntmps45
  go_wp2_with fail
  go_ret
  exact ⟨rfl, rfl⟩
theorem out_calls (w : World) (g : Nat) (ob : Option Nat) (V T : Nat) (h : WrV w g ob V T) : Calls Try.prog 45 #[.pointer (some ⟨g, 0, none⟩)] w fun e w' => ∃ v bs, e = .returned v ∧ New B w w' v bs ∧ bs.length = (T + 7) / 8 ∧ le bs = V := by
  have hg := h.lt
  obtain ⟨bs, A, n, c, h1, h2, hb, hr, hV, hlt, hne, hle⟩ := h
  have q0 : ∀ o, (w.alloc o).cell? ⟨g, 0, none⟩ = some (.slice A n c) := fun o => by rw [((Fr.refl No w).alloc o).cellg g 0 hg (fun h => h)]; simp [World.cell?, hb]
  have HH := hid (And.intro h1 (And.intro h2 (And.intro hb (And.intro hr (And.intro hV (And.intro hlt hne))))))
  have hn : n ≤ 140737488355328 := by omega
  clear h1 h2 hb hr hV hlt hne hle
  go_enter Try.func45, Try.ntmps45
  go_wp2_with (at_builtin; refine wpList_app slB rfl (.tmp 5) (.tmp 9) rfl rfl (Row.new w 1 0 [] _ rfl (by omega)) rfl (show (bs.map B).length = n * 1 by rw [List.length_map, HH.out.1]; omega) (Rd.cells.1 (HH.out.2.2.2.1.rd.1.alloc _)) (oneB _) (by omega) (by omega) ?_; intro A1 c1 w1 ob1 hv1 hf1 hob1; simp only [Nat.zero_add, List.nil_append, World.size_alloc] at hv1 hob1 ⊢)
  go_ret
  exact ⟨_, bs, rfl, New.mk' rfl HH.out.1 hv1 (some_le (m := w.heap.size) (hob1.imp id (fun ⟨k, a, b⟩ => ⟨k, a, by omega⟩)) (Nat.le_refl _)) (((Fr.refl No w).alloc _).fresh hf1 (fun k e => by injection e with e; omega)), HH.out.1.trans HH.out.2.1, HH.out.2.2.2.2.1⟩

theorem put_nil (w : World) (v n : Int) : Calls Try.prog 42 #[.pointer none, .int .i64 v, .int .i64 n] w fun e w' => e = .returned (.tuple #[]) ∧ w' = w := by
  go_enter Try.func42, Try.ntmps42
  go_wp2_with fail
  refine bodyPost_ret (results_none rfl _ _ _) rfl ?_
  exact ⟨rfl, rfl⟩

/-- A writer that has room for its next bit. -/
def Mid (w : World) (g : Nat) (ob : Option Nat) (V T : Nat) (bs : List UInt8) (A : Option Addr) (n c : Nat) : Prop :=
  w.cell? ⟨g, 0, none⟩ = some (.slice A n c) ∧ w.cell? ⟨g, 1, none⟩ = some (.int .i64 T) ∧ w.frozen? ⟨g, 0, none⟩ = false ∧ w.frozen? ⟨g, 1, none⟩ = false ∧
    Hid (bs.length = n ∧ n = T / 8 + 1 ∧ w.heap[g]? = some (.cells #[.slice A n c, .int .i64 T] 83 (0, 0)) ∧ Row w 1 (.slice A n c) ob n (bs.map B) ∧ le bs = V ∧ V < 2 ^ T ∧ ob ≠ some g ∧ T ≤ 1125899906842600)
theorem Mid.of {w : World} {g : Nat} {ob : Option Nat} {V T : Nat} {bs : List UInt8} {A : Option Addr} {n c : Nat} (h1 : bs.length = n) (h2 : n = T / 8 + 1) (hb : w.heap[g]? = some (.cells #[.slice A n c, .int .i64 T] 83 (0, 0)))
    (h3 : Row w 1 (.slice A n c) ob n (bs.map B) ∧ le bs = V ∧ V < 2 ^ T ∧ ob ≠ some g ∧ T ≤ 1125899906842600) : Mid w g ob V T bs A n c :=
  ⟨by simp [World.cell?, hb], by simp [World.cell?, hb], by simp [World.frozen?, hb], by simp [World.frozen?, hb], h1, h2, hb, h3⟩
set_option maxRecDepth 100000 in
set_option maxHeartbeats 1600000 in
theorem put_calls (w : World) (g : Nat) (ob : Option Nat) (V T : Nat) (h : WrV w g ob V T) (v n : Int) (hv : -9223372036854775808 ≤ v ∧ v ≤ 9223372036854775807) (hT : T ≤ 1125899906842000) :
    Calls Try.prog 42 #[.pointer (some ⟨g, 0, none⟩), .int .i64 v, .int .i64 n] w fun e w' => e = .returned (.tuple #[]) ∧
      ∃ ob', WrV w' g ob' (V + 2 ^ T * (v % 2 ^ low32 n).toNat) (T + low32 n) ∧ (ob' = ob ∨ ∃ k, ob' = some k ∧ w.heap.size ≤ k) ∧ Fr (RF g ob) w w' := by
  have hg := h.lt
  have HV := hid h
  have HT := hid hT
  clear h hT
  obtain ⟨m, hm⟩ : ∃ m, m = low32 n := ⟨_, rfl⟩
  have hmn : mn n 32 ≤ (m : Int) ∧ (mn n 32 = m ∨ m = 0) ∧ m ≤ 32 := by rw [hm]; unfold mn low32; omega
  obtain ⟨mi, hmi⟩ : ∃ mi, mi = mn n 32 := ⟨_, rfl⟩
  rw [← hmi] at hmn
  rw [← hm]
  have hmi' := hmi.symm
  clear hm hmi
  go_enter Try.func42, Try.ntmps42
  go_wp2_with fail
  go_loopw [1, 10] (fun x i wr => ∃ (j : Nat) (ob1 : Option Nat), j ≤ m ∧ i = .int .i64 j ∧ x = .int .i64 (v / 2 ^ j) ∧ WrV wr g ob1 (V + 2 ^ T * (v % 2 ^ j).toNat) (T + j) ∧ (ob1 = ob ∨ ∃ k, ob1 = some k ∧ w.heap.size ≤ k) ∧ Fr (RF g ob) w wr)
    (fun _ i _ => m - (intOf i).toNat)
  case atStart => exact ⟨0, ob, by omega, rfl, by simp, by simpa [Int.emod_one] using HV.out, .inl rfl, Fr.refl _ _⟩
  case round =>
    obtain ⟨j, ob1, hj, rfl, rfl, hwr, hob, hfr⟩ := hrel
    by_cases hlt : j < m
    · obtain ⟨x, hx⟩ : ∃ x, x = v / 2 ^ j := ⟨_, rfl⟩
      rw [← hx]
      have hjmi : (j : Int) < mi := by omega
      obtain ⟨T1, hT1⟩ : ∃ T1, T1 = T + j := ⟨_, rfl⟩
      obtain ⟨V1, hV1⟩ : ∃ V1, V1 = V + 2 ^ T * (v % 2 ^ j).toNat := ⟨_, rfl⟩
      rw [← hT1, ← hV1] at hwr
      have HX := hid (And.intro hx (And.intro hT1 hV1))
      have HF := hid (And.intro hob hfr)
      have hT1le := hwr.T_le
      have hgr := hwr.lt
      have hn1le : (T1 + 7) / 8 ≤ 140737488355327 := by omega
      obtain ⟨bs, A, n1, c, q0, q1, f0, f1, HW⟩ := hwr.cells
      have hand := and7 T1 (by omega)
      have hn1 : n1 ≤ 140737488355327 := by have := HW.out.2.1; omega
      by_cases hz : T1 % 8 = 0
      · have hz' : (((T1 % 8 : Nat) : Int) == 0) = true := by simp [hz]
        clear hx hT1 hV1 hob hfr hwr
        go_wp2_with (at_builtin; refine wpList_app1 slB rfl (.tmp 22) (.tmp 23) rfl rfl HW.out.2.2.2.1 rfl (m := 1) (c := 1) (ys := [B 0]) rfl (by simp [B, Value.oneCell']) (by omega) (by omega) ?_; intro A2 c2 w2 ob2 hrow2 hfr2 hob2; have f0' := (hfr2.frozen (p := ⟨g, 0, none⟩) hgr (fun e => HW.out.2.2.2.2.2.2.1 e.symm)).trans f0; have h0' := (hfr2.cellg g 0 hgr (fun e => HW.out.2.2.2.2.2.2.1 e.symm)).trans q0; have HA := hid (And.intro hrow2 (And.intro hfr2 hob2)); clear hrow2 hfr2 hob2)
        generalize hWe : w2.setCell ⟨g, 0, none⟩ (.slice A2 (n1 + 1) c2) = W
        obtain ⟨bsW, hbsW⟩ : ∃ bsW, bsW = bs ++ [0] := ⟨_, rfl⟩
        obtain ⟨nW, hnW⟩ : ∃ nW, nW = n1 + 1 := ⟨_, rfl⟩
        have hM : Mid W g ob2 V1 T1 bsW A2 nW c2 := by
          obtain ⟨k1, k2, k3, k4, k5, k6, k7, k8⟩ := HW.out
          obtain ⟨r1, r2, r3⟩ := HA.out
          rw [hbsW, hnW, ← hWe]
          have hne2 : ob2 ≠ some g := by
            rcases r3 with e | ⟨k, e, hk⟩
            · rw [e]; exact k7
            · rw [e]; intro e2; injection e2 with e2; omega
          refine Mid.of (by rw [List.length_append, k1]; rfl) (by omega) ?_ ⟨?_, by rw [le_snoc]; simpa using k5, k6, hne2, k8⟩
          · rw [heap_set w2 g 0 _ _ _ ((r2.block g hgr (fun e => k7 e.symm)).trans k3)]; rfl
          · rw [List.map_append]
            exact r1.fr (Fr.set1 _ _ _ _) (fun k hk (e : k = g) => hne2 (by rw [hk, e]))
        have hobW : ob2 = ob ∨ ∃ k, ob2 = some k ∧ w.heap.size ≤ k := by
          rcases HA.out.2.2 with e | ⟨k, e, hk⟩
          · rw [e]; exact HF.out.1
          · have := HF.out.2.size
            exact .inr ⟨k, e, by omega⟩
        have hfW : Fr (RF g ob) w W := by
          rw [← hWe]
          refine (HF.out.2.trans HA.out.2.1 (fun k hk e => ?_)).trans (Fr.set1 _ _ _ _) (fun k hk e => .inl e)
          rcases HF.out.1 with e1 | ⟨k', e1, hk'⟩
          · exact .inr (by rw [← e1]; exact e)
          · have e : some k = ob1 := e
            rw [e1] at e; injection e with e; omega
        have HFW := hid (And.intro hobW hfW)
        clear hobW hfW hWe h0' f0' HA HF HW q0 q1 f0 f1 hbsW hnW hgr hn1 hn1le hz hz'
        obtain ⟨q0, q1, f0, f1, HW⟩ := hM
        have hset := HW.out.2.2.2.1.set (T1 / 8) (by have := HW.out.2.1; omega) (B (UInt8.ofNat ((rdB bsW (T1 / 8)).toNat + (x % 2).toNat * 2 ^ (T1 % 8))))
        obtain ⟨hh, oo, old, rfl, hob2, hcell, hfroz, hrowset⟩ := hset
        have hold : old = .int .u8 ((rdB bsW (T1 / 8)).toNat : Int) := by
          obtain ⟨ad, e, hc⟩ := HW.out.2.2.2.1.rd.1.atN (T1 / 8) (by have := HW.out.1; have := HW.out.2.1; omega)
          injection e with e
          rw [← e, add_lit, hcell] at hc
          injection hc with hc
        subst hold
        have hrb := B_lt (rdB bsW (T1 / 8))
        have hnb : (T1 : Int) / 8 < nW := by have := HW.out.2.1; omega
        have hx1 := and1i x
        have HRS := hid (And.intro hob2 hrowset)
        clear hob2 hrowset
        have hval : (Value.int .u8 (bits .or .u8 ((rdB bsW (T1 / 8)).toNat : Int) (x % 2 * 2 ^ (T1 % 8) % 256))) = B (UInt8.ofNat ((rdB bsW (T1 / 8)).toNat + (x % 2).toNat * 2 ^ (T1 % 8))) := by
          exact put_val _ _ _ (wr_top bsW T1 (by rw [HW.out.2.2.2.2.1]; exact HW.out.2.2.2.2.2.1)) (by omega)
        have HVAL := hid hval
        clear hval
        go_region
        rw [HVAL.out]
        obtain ⟨NB, hNB⟩ : ∃ NB, NB = UInt8.ofNat ((rdB bsW (T1 / 8)).toNat + (x % 2).toNat * 2 ^ (T1 % 8)) := ⟨_, rfl⟩
        rw [← hNB] at HRS ⊢
        have hne : hh ≠ g := by
          intro e
          exact HW.out.2.2.2.2.2.2.1 (by rw [HRS.out.1, e])
        generalize hW2 : (W.setCell ⟨hh, oo + T1 / 8, none⟩ (B NB)).drew = W2
        have hf2 : Fr (One hh) W W2 := by rw [← hW2]; exact (Fr.set1 _ _ _ _).drew
        have hgW : g < W.heap.size := (Array.getElem?_eq_some_iff.1 HW.out.2.2.1).1
        have q1' : W2.cell? ⟨g, 1, none⟩ = some (.int .i64 T1) := (hf2.cellg g 1 hgW (fun e => hne e.symm)).trans q1
        have f1' : W2.frozen? ⟨g, 1, none⟩ = false := (hf2.frozen (p := ⟨g, 1, none⟩) hgW (fun e => hne e.symm)).trans f1
        have hwN : WrV (W2.setCell ⟨g, 1, none⟩ (.int .i64 ((T1 : Int) + 1))) g ob2 (V1 + 2 ^ T1 * (x % 2).toNat) (T1 + 1) := by
          obtain ⟨k1, k2, k3, k4, k5, k6, k7, k8⟩ := HW.out
          have hx2 : (x % 2).toNat < 2 := by omega
          refine ⟨bsW.set (T1 / 8) NB, some ⟨hh, oo, none⟩, nW, c2, by rw [List.length_set]; exact k1, by omega, ?_, ?_, ?_, ?_, k7, by have := HX.out.2.1; have := HT.out; omega⟩
          · rw [heap_set W2 g 1 _ _ _ ((hf2.block g hgW (fun e => hne e.symm)).trans k3), show ((T1 : Int) + 1) = ((T1 + 1 : Nat) : Int) by omega]; rfl
          · have hr2 := HRS.out.2
            rw [← List.map_set] at hr2
            have : Row W2 1 (.slice (some ⟨hh, oo, none⟩) nW c2) ob2 nW ((bsW.set (T1 / 8) NB).map B) := by rw [← hW2]; exact hr2.drew
            exact this.fr (Fr.set1 _ _ _ _) (fun k hk (e : k = g) => k7 (by rw [hk, e]))
          · rw [hNB, ← k5]
            exact wr_set bsW T1 _ (by rw [k5]; exact k6) (by omega) hx2
          · exact put_lt _ _ _ k6 hx2
        have hfN : Fr (RF g ob) w (W2.setCell ⟨g, 1, none⟩ (.int .i64 ((T1 : Int) + 1))) := by
          refine (HFW.out.2.trans hf2 (fun k hk e => ?_)).trans (Fr.set1 _ _ _ _) (fun k hk e => .inl e)
          have e : k = hh := e
          rcases HFW.out.1 with e1 | ⟨k', e1, hk'⟩
          · exact .inr (by rw [← e1, HRS.out.1, e])
          · rw [HRS.out.1] at e1; injection e1 with e1; omega
        have HNEW := hid (And.intro hwN (And.intro HFW.out.1 hfN))
        have hxd : x / 2 = v / 2 ^ (j + 1) := by rw [HX.out.1, div_pow_succ]
        have HXD := hid hxd
        have h64 : IntKind.i64.wrap ((T1 : Int) + 1) = (T1 : Int) + 1 := w64 _ (by omega) (by omega)
        have hVN : V1 + 2 ^ T1 * (x % 2).toNat = V + 2 ^ T * (v % 2 ^ (j + 1)).toNat := by
          rw [low_step, HX.out.2.1, HX.out.2.2, HX.out.1, Nat.pow_add, Nat.mul_add, Nat.mul_assoc, Nat.add_assoc]
        have HVN := hid hVN
        have HTN := hid (show T1 + 1 = T + (j + 1) by have := HX.out.2.1; omega)
        clear hf2 hgW hwN hfN hxd hne hW2 hcell hfroz q0 q1 f0 f1 HW HFW HRS hVN hNB
        go_wp2
        go_roundw
        case rel =>
          have h := HNEW.out
          rw [HVN.out, HTN.out] at h
          exact ⟨j + 1, ob2, by omega, by go_num, by rw [← HXD.out], h⟩
        case measure => simp [intOf] <;> omega
      · have hz' : (((T1 % 8 : Nat) : Int) == 0) = false := by simp; omega
        clear hx hT1 hV1 hob hfr hwr
        go_wp2_with fail
        obtain ⟨bsW, hbsW⟩ : ∃ bsW, bsW = bs := ⟨_, rfl⟩
        obtain ⟨nW, hnW⟩ : ∃ nW, nW = n1 := ⟨_, rfl⟩
        obtain ⟨A2, hA2⟩ : ∃ A2, A2 = A := ⟨_, rfl⟩
        obtain ⟨c2, hc2⟩ : ∃ c2, c2 = c := ⟨_, rfl⟩
        obtain ⟨ob2, hob2⟩ : ∃ ob2, ob2 = ob1 := ⟨_, rfl⟩
        have hM : Mid wr g ob2 V1 T1 bsW A2 nW c2 := by
          obtain ⟨k1, k2, k3, k4⟩ := HW.out
          rw [hbsW, hnW, hA2, hc2, hob2]
          exact Mid.of k1 (by omega) k3 k4
        rw [← hob2] at HF
        have HFW := HF
        clear HF HW q0 q1 f0 f1 hbsW hnW hA2 hc2 hob2 hgr hn1 hn1le hz hz'
        generalize wr = W at hM HFW ⊢
        obtain ⟨q0, q1, f0, f1, HW⟩ := hM
        have hset := HW.out.2.2.2.1.set (T1 / 8) (by have := HW.out.2.1; omega) (B (UInt8.ofNat ((rdB bsW (T1 / 8)).toNat + (x % 2).toNat * 2 ^ (T1 % 8))))
        obtain ⟨hh, oo, old, rfl, hob2, hcell, hfroz, hrowset⟩ := hset
        have hold : old = .int .u8 ((rdB bsW (T1 / 8)).toNat : Int) := by
          obtain ⟨ad, e, hc⟩ := HW.out.2.2.2.1.rd.1.atN (T1 / 8) (by have := HW.out.1; have := HW.out.2.1; omega)
          injection e with e
          rw [← e, add_lit, hcell] at hc
          injection hc with hc
        subst hold
        have hrb := B_lt (rdB bsW (T1 / 8))
        have hnb : (T1 : Int) / 8 < nW := by have := HW.out.2.1; omega
        have hx1 := and1i x
        have HRS := hid (And.intro hob2 hrowset)
        clear hob2 hrowset
        have hval : (Value.int .u8 (bits .or .u8 ((rdB bsW (T1 / 8)).toNat : Int) (x % 2 * 2 ^ (T1 % 8) % 256))) = B (UInt8.ofNat ((rdB bsW (T1 / 8)).toNat + (x % 2).toNat * 2 ^ (T1 % 8))) := by
          exact put_val _ _ _ (wr_top bsW T1 (by rw [HW.out.2.2.2.2.1]; exact HW.out.2.2.2.2.2.1)) (by omega)
        have HVAL := hid hval
        clear hval
        go_region
        rw [HVAL.out]
        obtain ⟨NB, hNB⟩ : ∃ NB, NB = UInt8.ofNat ((rdB bsW (T1 / 8)).toNat + (x % 2).toNat * 2 ^ (T1 % 8)) := ⟨_, rfl⟩
        rw [← hNB] at HRS ⊢
        have hne : hh ≠ g := by
          intro e
          exact HW.out.2.2.2.2.2.2.1 (by rw [HRS.out.1, e])
        generalize hW2 : (W.setCell ⟨hh, oo + T1 / 8, none⟩ (B NB)).drew = W2
        have hf2 : Fr (One hh) W W2 := by rw [← hW2]; exact (Fr.set1 _ _ _ _).drew
        have hgW : g < W.heap.size := (Array.getElem?_eq_some_iff.1 HW.out.2.2.1).1
        have q1' : W2.cell? ⟨g, 1, none⟩ = some (.int .i64 T1) := (hf2.cellg g 1 hgW (fun e => hne e.symm)).trans q1
        have f1' : W2.frozen? ⟨g, 1, none⟩ = false := (hf2.frozen (p := ⟨g, 1, none⟩) hgW (fun e => hne e.symm)).trans f1
        have hwN : WrV (W2.setCell ⟨g, 1, none⟩ (.int .i64 ((T1 : Int) + 1))) g ob2 (V1 + 2 ^ T1 * (x % 2).toNat) (T1 + 1) := by
          obtain ⟨k1, k2, k3, k4, k5, k6, k7, k8⟩ := HW.out
          have hx2 : (x % 2).toNat < 2 := by omega
          refine ⟨bsW.set (T1 / 8) NB, some ⟨hh, oo, none⟩, nW, c2, by rw [List.length_set]; exact k1, by omega, ?_, ?_, ?_, ?_, k7, by have := HX.out.2.1; have := HT.out; omega⟩
          · rw [heap_set W2 g 1 _ _ _ ((hf2.block g hgW (fun e => hne e.symm)).trans k3), show ((T1 : Int) + 1) = ((T1 + 1 : Nat) : Int) by omega]; rfl
          · have hr2 := HRS.out.2
            rw [← List.map_set] at hr2
            have : Row W2 1 (.slice (some ⟨hh, oo, none⟩) nW c2) ob2 nW ((bsW.set (T1 / 8) NB).map B) := by rw [← hW2]; exact hr2.drew
            exact this.fr (Fr.set1 _ _ _ _) (fun k hk (e : k = g) => k7 (by rw [hk, e]))
          · rw [hNB, ← k5]
            exact wr_set bsW T1 _ (by rw [k5]; exact k6) (by omega) hx2
          · exact put_lt _ _ _ k6 hx2
        have hfN : Fr (RF g ob) w (W2.setCell ⟨g, 1, none⟩ (.int .i64 ((T1 : Int) + 1))) := by
          refine (HFW.out.2.trans hf2 (fun k hk e => ?_)).trans (Fr.set1 _ _ _ _) (fun k hk e => .inl e)
          have e : k = hh := e
          rcases HFW.out.1 with e1 | ⟨k', e1, hk'⟩
          · exact .inr (by rw [← e1, HRS.out.1, e])
          · rw [HRS.out.1] at e1; injection e1 with e1; omega
        have HNEW := hid (And.intro hwN (And.intro HFW.out.1 hfN))
        have hxd : x / 2 = v / 2 ^ (j + 1) := by rw [HX.out.1, div_pow_succ]
        have HXD := hid hxd
        have h64 : IntKind.i64.wrap ((T1 : Int) + 1) = (T1 : Int) + 1 := w64 _ (by omega) (by omega)
        have hVN : V1 + 2 ^ T1 * (x % 2).toNat = V + 2 ^ T * (v % 2 ^ (j + 1)).toNat := by
          rw [low_step, HX.out.2.1, HX.out.2.2, HX.out.1, Nat.pow_add, Nat.mul_add, Nat.mul_assoc, Nat.add_assoc]
        have HVN := hid hVN
        have HTN := hid (show T1 + 1 = T + (j + 1) by have := HX.out.2.1; omega)
        clear hf2 hgW hwN hfN hxd hne hW2 hcell hfroz q0 q1 f0 f1 HW HFW HRS hVN hNB
        go_wp2
        go_roundw
        case rel =>
          have h := HNEW.out
          rw [HVN.out, HTN.out] at h
          exact ⟨j + 1, ob2, by omega, by go_num, by rw [← HXD.out], h⟩
        case measure => simp [intOf] <;> omega
    · obtain rfl : j = m := by omega
      have hnl : ¬ ((j : Int) < mi) := by omega
      have HH := hid (And.intro hwr (And.intro hob hfr))
      clear hwr hob hfr
      go_wp2_with fail
      go_end0
      exact ⟨rfl, ob1, HH.out⟩
end Go.Proofs.Ytjmgffiplkkgpaa
