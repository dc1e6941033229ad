/- The document's own reader of layer 1. -/
import Derived.Test.YtjmgffiplkkgpaaBits2
import Derived.Test.YtjmgffiplkkgpaaRef1
import Derived.Deep.RegionLaw
namespace Go.Proofs.Ytjmgffiplkkgpaa
open Go.RowKit Go.Proofs.HK
set_option linter.unusedVariables false
set_option linter.unusedSimpArgs false
attribute [local go_sem] max2_int min2_int max_two min_two

/-- The document's reader at g: of TT bits, the number VV, a are gone. -/
def RR (w : World) (g : Nat) (ob : Option Nat) (VV TT a : Nat) : Prop :=
  ∃ A c, w.heap[g]? = some (.cells #[.slice A TT c, .int .i64 a] 69 (0, 0)) ∧ Row w 1 (.slice A TT c) ob TT ((bitsN TT VV).map IB) ∧ VV < 2 ^ TT ∧ a ≤ TT ∧ TT % 8 = 0 ∧ ob ≠ some g ∧ TT ≤ 1000000
def slL : Value → Nat | .slice _ n _ => n | _ => 0
theorem ob_ge0 {ob ob1 : Option Nat} {m m' : Nat} (h : ob1 = ob ∨ ∃ k, ob1 = some k ∧ m' ≤ k) (ho : ∀ k, ob = some k → m ≤ k) (hm : m ≤ m') : ∀ k, ob1 = some k → m ≤ k := by
  intro k hk
  rcases h with e | ⟨k', e, h⟩
  · exact ho k (by rw [← e, hk])
  · rw [e] at hk; injection hk with hk; omega
theorem RR.lt {w : World} {g : Nat} {ob : Option Nat} {VV TT a : Nat} (h : RR w g ob VV TT a) : g < w.heap.size := by
  obtain ⟨A, c, hb, _⟩ := h
  exact (Array.getElem?_eq_some_iff.1 hb).1
theorem RR.olt {w : World} {g : Nat} {ob : Option Nat} {VV TT a : Nat} (h : RR w g ob VV TT a) : ∀ k, ob = some k → k < w.heap.size := by
  obtain ⟨A, c, hb, hr, _⟩ := h
  exact fun k hk => hr.lt hk
theorem RR.fr {S : Nat → Prop} {w w' : World} {g : Nat} {ob : Option Nat} {VV TT a : Nat} (h : RR w g ob VV TT a) (hf : Fr S w w') (hg : ¬ S g) (ho : ∀ k, ob = some k → ¬ S k) : RR w' g ob VV TT a := by
  have hlt := h.lt
  obtain ⟨A, c, hb, hr, h3⟩ := h
  exact ⟨A, c, (hf.block g hlt hg).trans hb, hr.fr hf ho, h3⟩
theorem RR.cells {w : World} {g : Nat} {ob : Option Nat} {VV TT a : Nat} (h : RR w g ob VV TT a) : ∃ A c, w.cell? ⟨g, 0, none⟩ = some (.slice A TT c) ∧ w.cell? ⟨g, 1, none⟩ = some (.int .i64 a) ∧ w.frozen? ⟨g, 0, none⟩ = false ∧ w.frozen? ⟨g, 1, none⟩ = false ∧ a ≤ TT ∧ TT ≤ 1000000 ∧ TT ≤ c ∧
    Hid (w.heap[g]? = some (.cells #[.slice A TT c, .int .i64 a] 69 (0, 0)) ∧ Row w 1 (.slice A TT c) ob TT ((bitsN TT VV).map IB) ∧ VV < 2 ^ TT ∧ TT % 8 = 0 ∧ ob ≠ some g) := by
  obtain ⟨A, c, hb, hr, h1, h2, h3, h4, h5⟩ := h
  exact ⟨A, c, by simp [World.cell?, hb], by simp [World.cell?, hb], by simp [World.frozen?, hb], by simp [World.frozen?, hb], h2, h5, hr.rd.2.1, hb, hr, h1, h3, h4⟩
/-- Going on. -/
theorem RR.on {w : World} {g : Nat} {ob : Option Nat} {VV TT a : Nat} (h : RR w g ob VV TT a) (a' : Nat) (ha : a' ≤ TT) {x : Int} (hx : x = (a' : Int)) (m : Nat) : RR ((w.drewN m).setCell ⟨g, 1, none⟩ (.int .i64 x)) g ob VV TT a' := by
  subst hx
  obtain ⟨A, c, hb, hr, h1, h2, h3, h4, h5⟩ := h
  refine ⟨A, c, ?_, (hr.drewN m).fr (Fr.set1 _ _ _ _) (fun k hk (e : k = g) => h4 (by rw [hk, e])), h1, ha, h3, h4, h5⟩
  rw [heap_set (w.drewN m) g 1 _ _ _ hb]; rfl

theorem rrhave_calls (w : World) (g : Nat) (ob : Option Nat) (VV TT a : Nat) (h : RR w g ob VV TT a) : Calls Try.prog 56 #[.pointer (some ⟨g, 0, none⟩)] w fun e w' => e = .returned (.int .i64 ((TT - a : Nat) : Int)) ∧ ∃ n, w' = w.drewN n := by
  obtain ⟨A, c, h0, h1, f0, f1, ha, hT, hc, H⟩ := h.cells
  have hw : IntKind.i64.wrap ((TT : Int) - (a : Int)) = ((TT - a : Nat) : Int) := by rw [w64 _ (by omega) (by omega)]; omega
  have HW := hid (show ((TT : Int) - (a : Int)) = ((TT - a : Nat) : Int) by omega)
  clear h
  go_enter Try.func56, Try.ntmps56
  go_wp2
  go_quiet (fail)
  go_wp2
  go_ret
  exact ⟨rfl, _, rfl⟩

theorem rrlook_calls (w : World) (g : Nat) (ob : Option Nat) (VV TT a : Nat) (h : RR w g ob VV TT a) (i : Int) : Calls Try.prog 52 #[.pointer (some ⟨g, 0, none⟩), .int .i64 i] w fun e w' => e = .returned (.int .i64 (lookS (VV / 2 ^ a) (TT - a) i)) ∧ ∃ n, w' = w.drewN n := by
  by_cases h1 : i < 0
  · have hl := hid (lookS_lo (V := VV / 2 ^ a) (T := TT - a) (.inl h1))
    clear h
    go_enter Try.func52, Try.ntmps52
    go_wp2_with fail
    go_ret
    exact ⟨ri hl.out.symm, 0, rfl⟩
  have h2 : 0 ≤ i := by omega
  by_cases h3 : ((TT - a : Nat) : Int) ≤ i
  · have hl := hid (lookS_lo (V := VV / 2 ^ a) (T := TT - a) (.inr h3))
    have HV := hid h
    clear h
    go_enter Try.func52, Try.ntmps52
    go_wp2_with (go_at_call 56; refine (rrhave_calls _ _ _ _ _ _ HV.out).mono ?_; rintro e w' ⟨rfl, k, rfl⟩)
    go_ret
    exact ⟨ri hl.out.symm, _, rfl⟩
  obtain ⟨k, rfl⟩ := Int.eq_ofNat_of_zero_le h2
  have hk : k < TT - a := by omega
  have hl := hid (lookS_in (V := VV / 2 ^ a) hk)
  have HV := hid h
  obtain ⟨A, c, h0, h1', f0, f1, ha, hT, hc, H⟩ := h.cells
  have hget := bitsN_get TT VV (a + k) (by omega)
  obtain ⟨hlt, hg⟩ := List.getElem?_eq_some_iff.1 hget
  obtain ⟨ad, rfl, hcc⟩ := H.out.2.1.rd.1 (by omega)
  have hcell := hcc (a + k) hlt
  rw [hg] at hcell
  have hcell' : w.cell? (ad.add (a + k)) = some (.int .i64 ((VV / 2 ^ (a + k) % 2 : Nat) : Int)) := hcell
  rw [← div_pow_add] at hcell'
  obtain ⟨z, hz⟩ : ∃ z, z = VV / 2 ^ a / 2 ^ k % 2 := ⟨_, rfl⟩
  rw [← hz] at hcell'
  have hw : IntKind.i64.wrap ((a : Int) + (k : Int)) = (a : Int) + (k : Int) := w64 _ (by omega) (by omega)
  have hb1 : (a : Int) + (k : Int) < (TT : Int) := by omega
  have HZ := hid hz
  clear h hcc hg hget hcell hz hk
  go_enter Try.func52, Try.ntmps52
  go_wp2_with (go_at_call 56; refine (rrhave_calls _ _ _ _ _ _ HV.out).mono ?_; rintro e w' ⟨rfl, j, rfl⟩)
  go_quiet (fail)
  go_wp2
  go_ret
  exact ⟨ri (by rw [hl.out, HZ.out]), _, World.drewN_drewN _ _ _⟩

theorem rrtake_no (w : World) (g : Nat) (ob : Option Nat) (VV TT a : Nat) (h : RR w g ob VV TT a) (n : Int) (hn : ¬ takeOk (TT - a) n) :
    Calls Try.prog 50 #[.pointer (some ⟨g, 0, none⟩), .int .i64 n] w fun e w' => e = .returned (.tuple #[.int .i64 0, .bool false]) ∧ ∃ n, w' = w.drewN n := by
  have HV := hid h
  clear h
  unfold takeOk at hn
  by_cases h1 : n < 0
  · clear hn
    go_enter Try.func50, Try.ntmps50
    go_wp2_with fail
    go_ret2
    exact ⟨rfl, 0, rfl⟩
  have h1' : 0 ≤ n := by omega
  by_cases h2 : 32 < n
  · clear hn
    go_enter Try.func50, Try.ntmps50
    go_wp2_with fail
    go_ret2
    exact ⟨rfl, 0, rfl⟩
  have h2' : n ≤ 32 := by omega
  have h3 : ((TT - a : Nat) : Int) < n := by omega
  clear hn
  go_enter Try.func50, Try.ntmps50
  go_wp2_with (go_at_call 56; refine (rrhave_calls _ _ _ _ _ _ HV.out).mono ?_; rintro e w' ⟨rfl, k, rfl⟩)
  go_ret2
  exact ⟨rfl, _, rfl⟩

theorem rrtake_calls (w : World) (g : Nat) (ob : Option Nat) (VV TT a : Nat) (h : RR w g ob VV TT a) (n : Nat) (hn : n ≤ 32) (hT : n ≤ TT - a) :
    Calls Try.prog 50 #[.pointer (some ⟨g, 0, none⟩), .int .i64 n] w fun e w' => e = .returned (.tuple #[.int .i64 ((VV / 2 ^ a % 2 ^ n : Nat) : Int), .bool true]) ∧ RR w' g ob VV TT (a + n) ∧ Fr (One g) w w' := by
  have HV := hid h
  obtain ⟨A, c, h0, h1, f0, f1, ha, hTT, hc, H⟩ := h.cells
  have hn1 : (n : Int) ≤ 32 := by omega
  have hn2 : (n : Int) ≤ ((TT - a : Nat) : Int) := by omega
  have hw : IntKind.i64.wrap ((a : Int) + (n : Int)) = (a : Int) + (n : Int) := w64 _ (by omega) (by omega)
  have hw2 : IntKind.i64.wrap ((a : Int) + (n : Int) - (n : Int)) = (a : Int) := by rw [w64 _ (by omega) (by omega)]; omega
  have hw3 : IntKind.i64.wrap (a : Int) = (a : Int) := w64 _ (by omega) (by omega)
  have hsl := cut_lh slI A TT c (a : Int) ((a : Int) + (n : Int)) a n rfl rfl (by omega)
  have hrd := (H.out.2.1.rd.1.cutA a c (by rw [bitsN_length]; exact hc) (by rw [bitsN_length]; omega)).take n
  rw [bitsN_drop, bitsN_take _ _ _ (by omega)] at hrd
  have HRD := hid hrd
  have hglt := h.lt
  have hon := fun m => h.on (a + n) (by omega) (x := (a : Int) + (n : Int)) (by omega) m
  have HON := hid hon
  have hdis : ∀ ad, A = some ad → ad.block ≠ g := fun ad e e2 => H.out.2.2.2.2 (by rw [H.out.2.1.rd.2.2.1 ad e, e2])
  have HD := hid hdis
  clear h hrd hon hdis
  go_enter Try.func50, Try.ntmps50
  go_wp2_with (go_at_call 56; refine (rrhave_calls _ _ _ _ _ _ HV.out).mono ?_; rintro e w' ⟨rfl, j, rfl⟩)
  obtain ⟨W, hW⟩ : ∃ W, W = (w.drewN j).setCell ⟨g, 1, none⟩ (.int .i64 ((a : Int) + (n : Int))) := ⟨_, rfl⟩
  have hfW : Fr (One g) w W := by rw [hW]; exact ((Fr.refl _ _).drewN _).then (Fr.set1 _ _ _ _)
  have hRW : RR W g ob VV TT (a + n) := by rw [hW]; exact HON.out j
  have hrdW := HRD.out.fr hfW (fun ad e (e2 : ad.block = g) => by obtain ⟨b, e3, e4⟩ := cutA_blk e; exact HD.out b e3 (by rw [← e4, e2]))
  have q1 : W.cell? ⟨g, 1, none⟩ = some (.int .i64 ((a : Int) + (n : Int))) := by rw [hW]; exact World.cell?_setCell_same _ _ _ h1
  have q0 : W.cell? ⟨g, 0, none⟩ = some (.slice A TT c) := by rw [hW, World.cell?_setCell_other _ _ _ _ (by intro e; injection e with _ e _; omega)]; exact h0
  rw [← hW]
  have HH := hid (And.intro hRW (And.intro hfW hrdW))
  clear hW hRW hfW hrdW h0 h1 f0 f1 HV HON
  go_quiet ((first | (go_at_call 62; exact Calls.quiet_of_same (ref1Number_calls _ n (VV / 2 ^ a) _ _ (HH.out.2.2.drewN _) (by omega)))))
  go_wp2
  go_ret2
  exact ⟨rfl, HH.out.1.fr (S := No) ((Fr.refl _ _).drewN _) (fun h => h) (fun _ _ h => h), HH.out.2.1.drewN _⟩

theorem rralign_calls (w : World) (g : Nat) (ob : Option Nat) (VV TT a : Nat) (h : RR w g ob VV TT a) :
    Calls Try.prog 53 #[.pointer (some ⟨g, 0, none⟩)] w fun e w' => e = .returned (.int .i64 (((TT - a) % 8 : Nat) : Int)) ∧ RR w' g ob VV TT (a + (TT - a) % 8) ∧ Fr (One g) w w' := by
  have HV := hid h
  obtain ⟨A, c, h0, h1, f0, f1, ha, hTT, hc, H⟩ := h.cells
  have hTm := H.out.2.2.2.1
  clear h h0 h1 f0 f1 H
  go_enter Try.func53, Try.ntmps53
  go_wp2_with fail
  go_loopw [3] (fun n wr => ∃ (j : Nat), j ≤ (TT - a) % 8 ∧ n = .int .i64 j ∧ RR wr g ob VV TT (a + j) ∧ Fr (One g) w wr) (fun n _ => 8 - (intOf n).toNat)
  case atStart => exact ⟨0, by omega, rfl, HV.out, Fr.refl _ _⟩
  case round =>
    obtain ⟨j, hj, rfl, h1, h2⟩ := hrel
    obtain ⟨A', c', q0, q1, f0, f1, ha', hTT', hc', H'⟩ := h1.cells
    by_cases hlt : j < (TT - a) % 8
    · have hne : ((((a + j : Nat) : Int) % 8) != 0) = true := by simp; omega
      have hon := fun m => h1.on (a + (j + 1)) (by omega) (x := ((a + j : Nat) : Int) + 1) (by omega) m
      have HON := hid (And.intro (hon 0) (h2.then (Fr.set1 wr g 1 (.int .i64 (((a + j : Nat) : Int) + 1)))))
      have hw : IntKind.i64.wrap (((a + j : Nat) : Int) + 1) = ((a + j : Nat) : Int) + 1 := w64 _ (by omega) (by omega)
      clear h1 hon h2
      obtain ⟨y, hy⟩ : ∃ y : Nat, y = a + j := ⟨_, rfl⟩
      rw [← hy] at hne HON hw q1
      have hyT : y ≤ 1000000 := by omega
      clear hy
      go_wp2
      go_roundw
      case rel => exact ⟨j + 1, by omega, by go_num, HON.out⟩
      case measure => simp [intOf] <;> omega
    · obtain rfl : j = (TT - a) % 8 := by omega
      have hne : ((((a + (TT - a) % 8 : Nat) : Int) % 8) != 0) = false := by simp; omega
      have HH := hid (And.intro h1 h2)
      clear h1 h2 hlt
      obtain ⟨y, hy⟩ : ∃ y : Nat, y = a + (TT - a) % 8 := ⟨_, rfl⟩
      rw [← hy] at hne q1
      have HY := hid hy
      obtain ⟨z, hz⟩ : ∃ z : Nat, z = (TT - a) % 8 := ⟨_, rfl⟩
      rw [← hz] at hy hj HH ⊢
      have HZ := hid hz
      clear hy hz HY
      go_wp2_with fail
      go_ret
      rw [← HZ.out]
      exact ⟨rfl, HH.out⟩

theorem rrfeed_calls (w : World) (g : Nat) (ob : Option Nat) (VV TT a : Nat) (h : RR w g ob VV TT a) (A : Option Addr) (ys : List UInt8) (n c : Nat) (hn : ys.length = n) (hr : Rd B w A ys) (hl : TT + 8 * n ≤ 1000000) :
    Calls Try.prog 49 #[.pointer (some ⟨g, 0, none⟩), .slice A n c] w fun e w' => e = .returned (.tuple #[]) ∧
      ∃ ob', RR w' g ob' (VV + 2 ^ TT * le ys) (TT + 8 * n) a ∧ (ob' = ob ∨ ∃ k, ob' = some k ∧ w.heap.size ≤ k) ∧ Fr (RF g ob) w w' := by
  have HV := hid h
  obtain ⟨A0, c0, h0, h1, f0, f1, ha, hTT, hc, H⟩ := h.cells
  have hglt := h.lt
  have HR := hid (And.intro hr hn)
  clear h hr hn
  go_enter Try.func49, Try.ntmps49
  go_region_law ((first
      | (go_simp; go_at_call 63; refine (ref1Bits_calls _ ys n c HR.out.2 _ (HR.out.1.drew) (by omega)).mono ?_; rintro e w1 ⟨x, rfl, hnew⟩; obtain ⟨A1, n1, c1, rfl, N1⟩ := hnew.use; have hf1 := N1.out.2.2.2.1; clear hnew; have h0' := (hf1.cellg g 0 (by simp; omega) (fun h => h)).trans h0; have f0' := (hf1.frozen (p := ⟨g, 0, none⟩) (by simp; omega) (fun h => h)).trans f0; have hgl1 : g < w1.heap.size := (by have := hf1.size; simp at this; omega))
      | (refine step_app slI rfl (.tmp 8) (.tmp 10) rfl rfl (H.out.2.1.drew.fr hf1 (fun _ _ h => h)) rfl (show ((bitsN (8 * n) (le ys)).map IB).length = n1 * 1 by rw [List.length_map, N1.out.1, Nat.mul_one]) (Rd.cells.1 N1.out.2.1) (fun u hu => by obtain ⟨x, _, rfl⟩ := List.mem_map.1 hu; rfl) (by have := N1.out.1; rw [bitsN_length] at this; omega) (by have := N1.out.1; rw [bitsN_length] at this; omega) ?_; intro A2 c2 w2 ob2 hv2 hf2 hob2; have f0'' := (hf2.frozen (p := ⟨g, 0, none⟩) hgl1 (fun e => H.out.2.2.2.2 e.symm)).trans f0'; have h0'' := (hf2.cellg g 0 hgl1 (fun e => H.out.2.2.2.2 e.symm)).trans h0')))
  all_goals
    go_end0
    have hs1 := hf1.size
    simp only [World.size_drew] at hs1
    have hn1 : n1 = 8 * n := by rw [← N1.out.1, bitsN_length]
    have hlys := le_lt ys
    rw [HR.out.2, pow256] at hlys
    have hne2 : ob2 ≠ some g := by
      rcases hob2 with e | ⟨k, e, hk⟩
      · rw [e]; exact H.out.2.2.2.2
      · rw [e]; intro e2; injection e2 with e2; omega
    rw [← List.map_append, bitsN_append _ _ _ _ H.out.2.2.1, hn1] at hv2
    have hfW : Fr (RF g ob) w (w2.setCell ⟨g, 0, none⟩ (.slice A2 (TT + n1) c2)) := ((((Fr.refl No w).drew.then hf1).any.trans hf2 (fun k hk e => .inr e) : Fr (RF g ob) w w2).trans (Fr.set1 _ _ _ _) (fun k hk e => .inl e))
    refine ⟨rfl, ob2, ⟨A2, c2, ?_, ?_, ?_, by omega, by have := H.out.2.2.2.1; omega, hne2, by omega⟩, ?_, hfW⟩
    · rw [heap_set w2 g 0 _ _ _ ((hf2.block g hgl1 (fun e => H.out.2.2.2.2 e.symm)).trans ((hf1.block g (by simp; omega) (fun h => h)).trans H.out.1)), hn1]; rfl
    · exact hv2.fr (Fr.set1 _ _ _ _) (fun k hk (e : k = g) => hne2 (by rw [hk, e]))
    · rw [Nat.pow_add]
      have h1 : 2 ^ TT * (le ys + 1) ≤ 2 ^ TT * 2 ^ (8 * n) := Nat.mul_le_mul_left _ hlys
      have h2 := H.out.2.2.1
      rw [Nat.mul_add] at h1
      omega
    · rcases hob2 with e | ⟨k, e, hk⟩
      · exact .inl e
      · exact .inr ⟨k, e, by omega⟩

set_option maxRecDepth 100000 in
theorem rrbytes_calls (w : World) (g : Nat) (ob : Option Nat) (VV TT a : Nat) (h : RR w g ob VV TT a) (n : Int) :
    Calls Try.prog 55 #[.pointer (some ⟨g, 0, none⟩), .int .i64 n] w fun e w' => ∃ v, e = .returned v ∧ NewR B w w' v (putLE (rbN (TT - a) n) ((VV / 2 ^ a : Nat) : Int)) ∧ RR w' g ob VV TT (a + 8 * rbN (TT - a) n) ∧ Fr (One g) w w' := by
  have HV := hid h
  obtain ⟨A, c, h0, h1, f0, f1, ha, hTT, hc, H⟩ := h.cells
  have hTm := H.out.2.2.2.1
  obtain ⟨k, hk⟩ : ∃ k, k = rbN (TT - a) n := ⟨_, rfl⟩
  have hk8 : 8 * k ≤ TT - a := by rw [hk]; unfold rbN; split <;> omega
  have hk0 : (TT - a) % 8 ≠ 0 → k = 0 := fun e => by rw [hk]; unfold rbN; rw [if_neg e]
  have hk1 : (TT - a) % 8 = 0 → (k : Int) = min (max n 0) (((TT - a) / 8 : Nat) : Int) := fun e => by rw [hk]; unfold rbN; rw [if_pos e]; omega
  rw [← hk]
  have HK1 := hid (And.intro hk0 hk1)
  clear h h0 h1 f0 f1 H hk hk0 hk1
  have hglt := HV.out.lt
  have HOL := hid HV.out.olt
  go_enter Try.func55, Try.ntmps55
  go_wp2_with fail
  go_loopw [5] (fun l wr => ∃ (j : Nat) (A1 : Option Addr) (c1 : Nat) (ob1 : Option Nat), j ≤ k ∧ l = .slice A1 j c1 ∧ RR wr g ob VV TT (a + 8 * j) ∧ Row wr 1 (.slice A1 j c1) ob1 j ((putLE j ((VV / 2 ^ a : Nat) : Int)).map B) ∧ (∀ q, ob1 = some q → w.heap.size ≤ q) ∧ Fr (One g) w wr) (fun l _ => TT - slL l)
  case atStart => exact ⟨0, none, 0, none, by omega, rfl, HV.out, Row.nil _ _, fun _ h => (by cases h), Fr.refl _ _⟩
  case round =>
    obtain ⟨j, A1, c1, ob1, hj, rfl, h1, h2, h3, h4⟩ := hrel
    obtain ⟨A', c', q0, q1, f0, f1, ha', hTT', hc', H'⟩ := h1.cells
    have hsz := h4.size
    have HREL := hid (And.intro h1 (And.intro h2 (And.intro h3 h4)))
    obtain ⟨y, hy⟩ : ∃ y : Nat, y = a + 8 * j := ⟨_, rfl⟩
    have hdone : ∀ m, j = k → ∃ v, (Ending.returned (.slice A1 j c1)) = .returned v ∧ NewR B w (wr.drewN m) v (putLE k ((VV / 2 ^ a : Nat) : Int)) ∧ RR (wr.drewN m) g ob VV TT (a + 8 * k) ∧ Fr (One g) w (wr.drewN m) := fun m e => by
      subst e
      exact ⟨_, rfl, NewR.mk' rfl (by rw [putLE_length]) (h2.drewN m) h3, h1.fr (S := No) ((Fr.refl _ _).drewN _) (fun h => h) (fun _ _ h => h), h4.drewN m⟩
    have HD := hid hdone
    rw [← hy] at q1
    clear h1 h2 h3 h4 hdone HV
    by_cases hz : (TT - a) % 8 = 0
    · have hkk := HK1.out.2 hz
      have hz' : (((y : Int) % 8) == 0) = true := by simp; omega
      by_cases hlt : j < k
      · have hjn : (j : Int) < n := by omega
        have hhv : 8 ≤ ((TT - (a + 8 * j) : Nat) : Int) := by omega
        have hw : IntKind.i64.wrap ((y : Int) + 8) = (y : Int) + 8 := w64 _ (by omega) (by omega)
        have hw2 : IntKind.i64.wrap ((y : Int) + 8 - 8) = (y : Int) := by rw [w64 _ (by omega) (by omega)]; omega
        have hw3 : IntKind.i64.wrap (y : Int) = (y : Int) := w64 _ (by omega) (by omega)
        have hon := fun m => HREL.out.1.on (a + 8 * (j + 1)) (by omega) (x := (y : Int) + 8) (by omega) m
        have HON := hid hon
        have hyT : y + 8 ≤ TT := by omega
        clear hkk hz hon
        have HY := hid hy
        clear hy
        go_wp2_with (go_at_call 56; refine (rrhave_calls _ _ _ _ _ _ HREL.out.1).mono ?_; rintro e w' ⟨rfl, nq, rfl⟩)
        have hfW : Fr (One g) wr ((wr.drewN nq).setCell ⟨g, 1, none⟩ (.int .i64 ((y : Int) + 8))) := ((Fr.refl _ _).drewN _).then (Fr.set1 _ _ _ _)
        have hRW := HON.out nq
        have q0' : ((wr.drewN nq).setCell ⟨g, 1, none⟩ (.int .i64 ((y : Int) + 8))).cell? ⟨g, 0, none⟩ = some (.slice A' TT c') := by rw [World.cell?_setCell_other _ _ _ _ (by intro e; injection e with _ e _; omega)]; exact q0
        have q1' : ((wr.drewN nq).setCell ⟨g, 1, none⟩ (.int .i64 ((y : Int) + 8))).cell? ⟨g, 1, none⟩ = some (.int .i64 ((y : Int) + 8)) := World.cell?_setCell_same _ _ _ q1
        generalize (wr.drewN nq).setCell ⟨g, 1, none⟩ (.int .i64 ((y : Int) + 8)) = W at hfW hRW q0' q1' ⊢
        have hdis : ∀ ad, A' = some ad → ad.block ≠ g := fun ad e e2 => H'.out.2.2.2.2 (by rw [H'.out.2.1.rd.2.2.1 ad e, e2])
        have hrd := (H'.out.2.1.rd.1.cutA y c' (by rw [bitsN_length]; exact hc') (by rw [bitsN_length]; omega)).take 8
        rw [bitsN_drop, bitsN_take _ _ _ (by omega)] at hrd
        have hrdW := hrd.fr hfW (fun ad e (e2 : ad.block = g) => by obtain ⟨b, e3, e4⟩ := cutA_blk e; exact hdis b e3 (by rw [← e4, e2]))
        have hrowW : Row W 1 (.slice A1 j c1) ob1 j ((putLE j ((VV / 2 ^ a : Nat) : Int)).map B) := HREL.out.2.1.fr hfW (fun q hq (e : q = g) => by have := HREL.out.2.2.1 q hq; omega)
        have hsW := hfW.size
        have hst : (putLE (j + 1) ((VV / 2 ^ a : Nat) : Int)).map B = (putLE j ((VV / 2 ^ a : Nat) : Int)).map B ++ [.int .u8 ((VV / 2 ^ y % 2 ^ 8 : Nat) : Int)] := by
          rw [putLE_snoc, List.map_append, List.map_cons, B_byteOf, HY.out]
          have : (((VV / 2 ^ a : Nat) : Int) / 256 ^ j) = ((VV / 2 ^ (a + 8 * j) : Nat) : Int) := by
            rw [← div_pow_add, ← pow256]; simp
          rw [this]; rfl
        have h256 : VV / 2 ^ y % 2 ^ 8 < 256 := Nat.mod_lt _ (by decide)
        have HH := hid (And.intro hRW (And.intro hfW (And.intro hrdW (And.intro hrowW hst))))
        have hsl := cut_lh slI A' TT c' (y : Int) ((y : Int) + 8) y 8 rfl rfl (by omega)
        clear hRW hfW hrdW hrowW hst hdis hrd q0 q1 f0 f1 HON
        have hgW := HH.out.1.lt
        generalize hz : VV / 2 ^ y % 2 ^ 8 = z at HH h256 ⊢
        have HZ := hid hz
        have hwz : IntKind.u8.wrap (z : Int) = (z : Int) := by rw [IntKind.wrap_u8]; omega
        clear hz
        go_region_held3 (fun w' => w'.cell? ⟨g, 0, none⟩ = some (.slice A' TT c') ∧ w'.cell? ⟨g, 1, none⟩ = some (.int .i64 ((y : Int) + 8)))
          (first | go_keep | (refine ⟨(hf1.cellg g 0 (by simp; omega) (fun e => by have := HREL.out.2.2.1 g e.symm; omega)).trans ?_, (hf1.cellg g 1 (by simp; omega) (fun e => by have := HREL.out.2.2.1 g e.symm; omega)).trans ?_⟩ <;> go_keep))
          (first
            | (go_at_call 62; refine (ref1Number_calls _ 8 (VV / 2 ^ y) _ _ (HH.out.2.2.1.drew) (by omega)).mono ?_; rw [HZ.out]; rintro e w' ⟨rfl, rfl⟩)
            | (refine step_app slB1 rfl (.tmp 31) (.tmp 48) rfl rfl (HH.out.2.2.2.1.fr (S := No) ((Fr.refl _ _).alloc _) (fun _ _ h => h)).drew rfl (m := 1) (ys := [.int .u8 (z : Int)]) rfl (cells_new _ _ _) (by simp [Value.oneCell']) (by omega) (by omega) ?_; intro A2 c2 w1 ob2 hv2 hf1 hob2))
        simp only [World.size_drew, World.size_alloc] at hob2
        rw [← HH.out.2.2.2.2] at hv2
        have hob1 := HREL.out.2.2.1
        have hgo : ∀ q, ob1 = some q → q ≠ g := fun q hq e => by have := hob1 q hq; omega
        have hfA : Fr (Opt ob1) W w1 := ((((Fr.refl (Opt ob1) W).alloc _).drew).then hf1)
        have hRR := HH.out.1.fr hfA (fun e => hgo g e.symm rfl) (fun q hq e => by have := hob1 q e.symm; have := HOL.out q hq; omega)
        have hFF : Fr (One g) w w1 := (HREL.out.2.2.2.then HH.out.2.1).trans hfA (fun q hq e => by have := hob1 q e.symm; omega)
        have ho2 : ∀ q, ob2 = some q → w.heap.size ≤ q := ob_ge0 hob2 hob1 (by omega)
        have HE := hid (And.intro hRR (And.intro hv2 (And.intro ho2 hFF)))
        clear hv2 hf1 hob2 hRR hFF ho2 hfA
        go_wp2_with fail
        go_roundw
        case rel => exact ⟨j + 1, A2, c2, ob2, by omega, rfl, HE.out⟩
        case measure => simp [slL] <;> omega
      · obtain rfl : j = k := by omega
        have HE := hid (fun m => HD.out m rfl)
        by_cases hjn : (j : Int) < n
        · have hhv : ((TT - (a + 8 * j) : Nat) : Int) < 8 := by omega
          clear hkk hy hlt
          go_wp2_with (go_at_call 56; refine (rrhave_calls _ _ _ _ _ _ HREL.out.1).mono ?_; rintro e w' ⟨rfl, nq, rfl⟩)
          go_ret
          exact HE.out nq
        · clear hkk hy hlt
          go_wp2_with fail
          go_ret
          exact HE.out 0
    · obtain rfl : j = k := by have := HK1.out.1 hz; omega
      have HE := hid (fun m => HD.out m rfl)
      have hz' : (((y : Int) % 8) == 0) = false := by simp; omega
      clear hy hz
      go_wp2_with fail
      go_ret
      exact HE.out 0
end Go.Proofs.Ytjmgffiplkkgpaa
