/- The contract of the document's Read of a head. -/
import Derived.Test.YtkhglmmidgfliaaHeadWr
namespace Go.Proofs.Ytkhglmmidgfliaa
open Go.RowKit Go.Proofs.HK
set_option linter.unusedVariables false
set_option linter.unusedSimpArgs false
attribute [local go_sem] max2_int min2_int max_two min_two

/-- What comes back, where the first result lies in a cell. -/
theorem ret_head2 {R : Ending → World → Prop} {W : World} {g : Nat} {x y z u : Int} {l : Bool} {er : Int} {a : Act} (hb : W.heap[g]? = some (.cells #[.int .i64 x, .int .i64 y, .int .i64 z, .int .i64 u, .bool l] 33 (0, 0)))
    (h2 : a.tmps.getD 2 undef = .pointer (some ⟨g, 0, none⟩)) (h3 : a.tmps.getD 3 undef = .int .i64 er) (hd : a.defers = []) (hR : R (.returned (.tuple #[headV x y z u l, .int .i64 er])) W) : bodyPost Try.prog Try.f44 R .ret a W := by
  refine bodyPost_ret (v := .tuple #[headV x y z u l, .int .i64 er]) ?_ hd hR
  have hr := res_head W g x y z u l hb
  have hres : Try.f44.results = #[.cell 2 33, .tmp 3] := rfl
  have h2' : a.tmps[2]?.getD undef = .pointer (some ⟨g, 0, none⟩) := by simpa using h2
  have h3' : a.tmps[3]?.getD undef = .int .i64 er := by simpa using h3
  simp [results, hres, h2', h3', hr.1, hr.2]
theorem bn0 {x : Nat} (h : x = 0) : ((x : Int) != 0) = false := by subst h; rfl
theorem bn1 {x : Nat} (h : x ≠ 0) : ((x : Int) != 0) = true := by rw [bne_iff_ne]; omega
theorem keep3c {S : Nat → Prop} {w w1 : World} {g i j k : Nat} {a b c : Option Value} (hf : Fr S w w1) (hg : g < w.heap.size) (hn : ¬ S g) (h : w.cell? ⟨g, i, none⟩ = a ∧ w.cell? ⟨g, j, none⟩ = b ∧ w.cell? ⟨g, k, none⟩ = c) :
    w1.cell? ⟨g, i, none⟩ = a ∧ w1.cell? ⟨g, j, none⟩ = b ∧ w1.cell? ⟨g, k, none⟩ = c := by
  rw [hf.cellg g i hg hn, hf.cellg g j hg hn, hf.cellg g k hg hn]; exact h

set_option maxRecDepth 100000 in
set_option maxHeartbeats 1600000 in
theorem refRead_calls (A : Option Addr) (bs : List UInt8) (n0 c : Nat) (hn0 : bs.length = n0) (hc0 : n0 ≤ c) (w : World) (hr : Rd B w A bs) (hl : n0 ≤ 140737488355328) :
    Calls Try.prog 44 #[.slice A n0 c] w fun e w' => e = .returned (.tuple #[rdV bs, .int .i64 (rdE bs)]) ∧ Fr No w w' := by
  have HR := hid (And.intro hn0 hr)
  clear hn0 hr
  by_cases h13 : n0 = 13
  · subst h13
    obtain ⟨ad, rfl, hc⟩ := HR.out.2 (by rw [HR.out.1]; omega)
    have hcc : ∀ k, k < 13 → w.cell? (ad.add k) = some (.int .u8 ((rdB bs k).toNat : Int)) := fun k hk => by
      rw [hc k (by rw [HR.out.1]; exact hk)]
      simp [B, rdB, List.getD, List.getElem?_eq_getElem (show k < bs.length by rw [HR.out.1]; exact hk)]
    have hadl : ad.block < w.heap.size := by have := lt_of_cell (hcc 0 (by omega)); rwa [add_block] at this
    have hcA : ∀ k, k < 13 → ∀ o, (w.alloc o).cell? (ad.add k) = some (.int .u8 ((rdB bs k).toNat : Int)) := fun k hk o => (((Fr.refl No w).alloc o).cell (by rw [add_block]; exact hadl) (fun h => h)).trans (hcc k hk)
    obtain ⟨x8, hx8⟩ : ∃ x : Nat, x = (rdB bs 8).toNat := ⟨_, rfl⟩
    obtain ⟨x9, hx9⟩ : ∃ x : Nat, x = (rdB bs 9).toNat := ⟨_, rfl⟩
    obtain ⟨x10, hx10⟩ : ∃ x : Nat, x = (rdB bs 10).toNat := ⟨_, rfl⟩
    obtain ⟨x11, hx11⟩ : ∃ x : Nat, x = (rdB bs 11).toNat := ⟨_, rfl⟩
    obtain ⟨x12, hx12⟩ : ∃ x : Nat, x = (rdB bs 12).toNat := ⟨_, rfl⟩
    have a8 := hcA 8 (by omega)
    have a9 := hcA 9 (by omega)
    have a10 := hcA 10 (by omega)
    have a11 := hcA 11 (by omega)
    have a12 := hcA 12 (by omega)
    simp only [← hx8] at a8
    replace a8 : ∀ o, (w.alloc o).cell? ⟨ad.block, ad.off + 8, none⟩ = some (.int .u8 (x8 : Int)) := a8
    simp only [← hx9] at a9
    replace a9 : ∀ o, (w.alloc o).cell? ⟨ad.block, ad.off + 9, none⟩ = some (.int .u8 (x9 : Int)) := a9
    simp only [← hx10] at a10
    replace a10 : ∀ o, (w.alloc o).cell? ⟨ad.block, ad.off + 10, none⟩ = some (.int .u8 (x10 : Int)) := a10
    simp only [← hx11] at a11
    replace a11 : ∀ o, (w.alloc o).cell? ⟨ad.block, ad.off + 11, none⟩ = some (.int .u8 (x11 : Int)) := a11
    simp only [← hx12] at a12
    replace a12 : ∀ o, (w.alloc o).cell? ⟨ad.block, ad.off + 12, none⟩ = some (.int .u8 (x12 : Int)) := a12
    have HX := hid (And.intro hx8 (And.intro hx9 (And.intro hx10 (And.intro hx11 hx12))))
    clear hc hcc hcA hx8 hx9 hx10 hx11 hx12
    by_cases hok : x10 = 0 ∧ x11 = 0 ∧ x12 ≤ 1
    · obtain ⟨h10, h11, h12⟩ := hok
      have hb1 := bn0 h10
      have hb2 := bn0 h11
      have hb3 : ¬ ((x12 : Int) > 1) := by omega
      have hsl1 := cut_h slU8 (some ad) 13 c 4 4 rfl (by omega)
      have hsl2 := cut_lh slU8 (some ad) 13 c 4 8 4 4 rfl rfl (by omega)
      have hlen1 : (bs.take 4).length = 4 := by rw [List.length_take, HR.out.1]; rfl
      have hlen2 : ((bs.drop 4).take 4).length = 4 := by rw [List.length_take, List.length_drop, HR.out.1]; rfl
      have hr1 : Rd B w (some ad) (bs.take 4) := HR.out.2.take 4
      have hr2 : Rd B w (cutA (some ad) c 4 1) ((bs.drop 4).take 4) := (HR.out.2.cutA 4 c (by rw [HR.out.1]; exact hc0) (by rw [HR.out.1]; omega)).take 4
      have HL := hid (And.intro hlen1 (And.intro hlen2 (And.intro hr1 (And.intro hr2 (And.intro h10 (And.intro h11 h12))))))
      obtain ⟨V1, hV1⟩ : ∃ V, V = be (bs.take 4) := ⟨_, rfl⟩
      obtain ⟨V2, hV2⟩ : ∃ V, V = be ((bs.drop 4).take 4) := ⟨_, rfl⟩
      clear hlen1 hlen2 hr1 hr2 h10 h11 h12
      go_enter Try.func44, Try.ntmps44
      go_wp2_with fail
      have s8 := a8 (.cells #[.int .i64 0, .int .i64 0, .int .i64 0, .int .i64 0, .bool false] 33)
      have s9 := a9 (.cells #[.int .i64 0, .int .i64 0, .int .i64 0, .int .i64 0, .bool false] 33)
      have s12 := a12 (.cells #[.int .i64 0, .int .i64 0, .int .i64 0, .int .i64 0, .bool false] 33)
      generalize hwA : w.alloc (.cells #[.int .i64 0, .int .i64 0, .int .i64 0, .int .i64 0, .bool false] 33) = wA at s8 s9 s12 ⊢
      have hlA : ad.block < wA.heap.size := by exact lt_of_cell (a := ⟨ad.block, ad.off + 8, none⟩) s8
      have hfA : Fr No w wA := by rw [← hwA]; exact (Fr.refl No w).alloc _
      have hbR : wA.heap[w.heap.size]? = some (.cells #[.int .i64 0, .int .i64 0, .int .i64 0, .int .i64 0, .bool false] 33 (0, 0)) := by rw [← hwA]; exact heap_new _ _
      have HA := hid (And.intro hfA (And.intro hbR (And.intro hV1 hV2)))
      clear hwA hfA hbR hV1 hV2 a8 a9 a10 a11 a12
      have hw8 : IntKind.i64.wrap (x8 : Int) = (x8 : Int) := by rw [HX.out.1]; exact w64 _ (by omega) (by have := B_lt (rdB bs 8); omega)
      have hw9 : IntKind.i64.wrap (x9 : Int) = (x9 : Int) := by rw [HX.out.2.1]; exact w64 _ (by omega) (by have := B_lt (rdB bs 9); omega)
      go_region_held3 (fun w' => w'.cell? ⟨ad.block, ad.off + 8, none⟩ = some (.int .u8 (x8 : Int)) ∧ w'.cell? ⟨ad.block, ad.off + 9, none⟩ = some (.int .u8 (x9 : Int)) ∧ w'.cell? ⟨ad.block, ad.off + 12, none⟩ = some (.int .u8 (x12 : Int)))
        (first | assumption | exact ⟨s8, s9, s12⟩ | exact keep3c (((Fr.refl No _).alloc _).drew) hlA (fun h => h) ⟨s8, s9, s12⟩ | exact keep3c ((Fr.refl No _).alloc _) hlA (fun h => h) ⟨s8, s9, s12⟩ | exact keep3c ((((((((Fr.refl (One wA.heap.size) wA).alloc _).drew).setCell (fun _ => rfl) _).setCell (fun _ => rfl) _).setCell (fun _ => rfl) _).setCell (fun _ => rfl) _).setCell (fun _ => rfl) _) hlA (fun e => by have e : ad.block = wA.heap.size := e; omega) ⟨s8, s9, s12⟩)
        (first
          | (go_at_call 61; have := hM1; refine (refNumber_calls (cutA (some ad) c 4 1) ((bs.drop 4).take 4) 4 (c - 4) HL.out.2.1 _ (by first | exact ((HL.out.2.2.2.1.fr0 HA.out.1).drew) | exact ((HL.out.2.2.2.1.fr0 HA.out.1).drew).alloc _ | exact (HL.out.2.2.2.1.fr0 HA.out.1).alloc _) (by rw [HL.out.2.1]; decide)).mono ?_; rw [← HA.out.2.2.2]; rintro e w' ⟨rfl, rfl⟩)
          | (go_at_call 61; refine (refNumber_calls (some ad) (bs.take 4) 4 c HL.out.1 _ (by first | exact ((HL.out.2.2.1.fr0 HA.out.1).drew) | exact ((HL.out.2.2.1.fr0 HA.out.1).drew).alloc _ | exact (HL.out.2.2.1.fr0 HA.out.1).alloc _) (by rw [HL.out.1]; decide)).mono ?_; rw [← HA.out.2.2.1]; rintro e w' ⟨rfl, rfl⟩; have hM1 : True := trivial))
      all_goals
        obtain ⟨wB, hwB, hwB'⟩ : ∃ wB, wB = wA.alloc (.cells #[.int .i64 (V1 : Int), .int .i64 (V2 : Int), .int .i64 (x9 : Int), .int .i64 (x8 : Int), .bool ((x12 : Int) == 1)] 33) ∧ ∃ wC, wC = wB.drew := ⟨_, rfl, _, rfl⟩
        obtain ⟨lb, hlb⟩ : ∃ lb, lb = ((x12 : Int) == 1) := ⟨_, rfl⟩
        have hfB : Fr No wA wB := by rw [hwB]; exact (Fr.refl _ _).alloc _
        have hbB : wB.heap[wA.heap.size]? = some (.cells #[.int .i64 (V1 : Int), .int .i64 (V2 : Int), .int .i64 (x9 : Int), .int .i64 (x8 : Int), .bool lb] 33 (0, 0)) := by rw [hwB, hlb]; exact heap_new _ _
        first
          | rw [← hwB, ← hlb]
          | (rw [show wA.drew.alloc (.cells #[.int .i64 (V1 : Int), .int .i64 (V2 : Int), .int .i64 (x9 : Int), .int .i64 (x8 : Int), .bool ((x12 : Int) == 1)] 33) = wB.drew from by rw [hwB]; rfl, ← hlb])
        obtain ⟨gh, hgh⟩ : ∃ gh, gh = wA.heap.size := ⟨_, rfl⟩
        rw [← hgh] at hbB ⊢
        have hwl : w.heap.size < wA.heap.size := (Array.getElem?_eq_some_iff.1 HA.out.2.1).1
        have hghl : gh < wB.heap.size := (Array.getElem?_eq_some_iff.1 hbB).1
        have hwl2 : w.heap.size < wB.heap.size := by omega
        clear hgh
        obtain ⟨k0, k1, k2, k3, k4, _⟩ := blk5 hbB
        have HB := hid (And.intro hfB (And.intro hbB hlb))
        clear hwB hwB' hlb hfB hbB s8 s9 s12
        cases hm : mayS V1 V2 x9 x8 with
        | false =>
          have hbad : ¬ rdOk bs := fun h => by
            have h5 := h.2.2.2.2
            rw [← HX.out.1, ← HX.out.2.1, ← HA.out.2.2.1, ← HA.out.2.2.2, hm] at h5
            cases h5
          have HBAD := hid hbad
          clear hbad
          go_wp2_with (go_at_call 29; refine (refMay_calls V1 V2 x9 x8 lb _).mono ?_; rw [hm]; rintro e wM ⟨rfl, hfm⟩; have hbM := (hfm.block w.heap.size hwl2 (fun h => h)).trans ((HB.out.1.block w.heap.size hwl (fun h => h)).trans HA.out.2.1); obtain ⟨m0, m1, m2, m3, m4, n0', n1', n2', n3', n4'⟩ := blk5 hbM; have HM := hid (And.intro hbM ((HA.out.1.then HB.out.1.drew).then hfm)); clear hfm hbM)
          refine ret_head2 (x := 0) (y := 0) (z := 0) (u := 0) (l := false) (er := 11) ?_ rfl rfl rfl ?_
          · rw [heap_set _ _ _ _ _ _ (heap_set _ _ _ _ _ _ (heap_set _ _ _ _ _ _ (heap_set _ _ _ _ _ _ (heap_set _ _ _ _ _ _ HM.out.1))))]; rfl
          · rw [(rd_bad HBAD.out).1, (rd_bad HBAD.out).2]
            exact ⟨rfl, set5 (HM.out.2) _ _ _ _ _⟩
        | true =>
          have hgood : rdOk bs := by
            have hm' := hm
            rw [HX.out.1, HX.out.2.1, HA.out.2.2.1, HA.out.2.2.2] at hm'
            exact ⟨HR.out.1, UInt8.toNat_inj.1 (by rw [← HX.out.2.2.1]; exact HL.out.2.2.2.2.1), UInt8.toNat_inj.1 (by rw [← HX.out.2.2.2.1]; exact HL.out.2.2.2.2.2.1), by rw [← HX.out.2.2.2.2]; exact HL.out.2.2.2.2.2.2, hm'⟩
          have HG := hid hgood
          clear hgood
          go_wp2_with (go_at_call 29; refine (refMay_calls V1 V2 x9 x8 lb _).mono ?_; rw [hm]; rintro e wM ⟨rfl, hfm⟩; have hbM := (hfm.block w.heap.size hwl2 (fun h => h)).trans ((HB.out.1.block w.heap.size hwl (fun h => h)).trans HA.out.2.1); obtain ⟨m0, m1, m2, m3, m4, n0', n1', n2', n3', n4'⟩ := blk5 hbM; obtain ⟨k0, k1, k2, k3, k4, _, _, _, _, _⟩ := blk5 ((hfm.block gh hghl (fun h => h)).trans HB.out.2.1); have HM := hid (And.intro hbM ((HA.out.1.then HB.out.1.drew).then hfm)); clear hfm hbM)
          refine ret_head2 (x := V1) (y := V2) (z := x9) (u := x8) (l := lb) (er := 0) ?_ rfl rfl rfl ?_
          · rw [heap_set _ _ _ _ _ _ (heap_set _ _ _ _ _ _ (heap_set _ _ _ _ _ _ (heap_set _ _ _ _ _ _ (heap_set _ _ _ _ _ _ HM.out.1))))]; rfl
          · refine ⟨?_, set5 HM.out.2 _ _ _ _ _⟩
            rw [(rd_good HG.out).1, (rd_good HG.out).2, ← HX.out.1, ← HX.out.2.1, ← HA.out.2.2.1, ← HA.out.2.2.2, ← HX.out.2.2.2.2, HB.out.2.2, beq_cast]
    · have hbad : ¬ rdOk bs := fun h => hok ⟨by rw [HX.out.2.2.1, h.2.1]; rfl, by rw [HX.out.2.2.2.1, h.2.2.1]; rfl, by rw [HX.out.2.2.2.2]; exact h.2.2.2.1⟩
      have HBAD := hid hbad
      have hbb : ((x10 : Int) != 0) = true ∨ ((x10 : Int) != 0) = false ∧ ((x11 : Int) != 0) = true ∨ ((x10 : Int) != 0) = false ∧ ((x11 : Int) != 0) = false ∧ (x12 : Int) > 1 := by
        by_cases h0 : x10 = 0
        · by_cases h1 : x11 = 0
          · exact .inr (.inr ⟨bn0 h0, bn0 h1, by omega⟩)
          · exact .inr (.inl ⟨bn0 h0, bn1 h1⟩)
        · exact .inl (bn1 h0)
      clear hok hbad
      rcases hbb with hbb | ⟨hb1, hbb⟩ | ⟨hb1, hb2, hbb⟩
      all_goals
        go_enter Try.func44, Try.ntmps44
        go_wp2_with fail
        refine ret_head2 (x := 0) (y := 0) (z := 0) (u := 0) (l := false) (er := 11) (heap_new _ _) rfl rfl rfl ?_
        rw [(rd_bad HBAD.out).1, (rd_bad HBAD.out).2]
        exact ⟨rfl, (Fr.refl No w).alloc _⟩
  · have hbad : ¬ rdOk bs := fun h => h13 (by rw [← HR.out.1]; exact h.1)
    have HBAD := hid hbad
    have hb : ((n0 : Int) != 13) = true := by rw [bne_iff_ne]; omega
    clear h13 hbad
    go_enter Try.func44, Try.ntmps44
    go_wp2_with fail
    refine ret_head2 (x := 0) (y := 0) (z := 0) (u := 0) (l := false) (er := 11) (heap_new _ _) rfl rfl rfl ?_
    rw [(rd_bad HBAD.out).1, (rd_bad HBAD.out).2]
    exact ⟨rfl, (Fr.refl No w).alloc _⟩
end Go.Proofs.Ytkhglmmidgfliaa
