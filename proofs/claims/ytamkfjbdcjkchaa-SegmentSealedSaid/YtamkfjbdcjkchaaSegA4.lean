/- The writer of an answer: its ranges, one behind the other. -/
import Derived.Test.YtamkfjbdcjkchaaSegA
namespace Go.Proofs.Ytamkfjbdcjkchaa
open Go.RowKit Go.Proofs.HK
set_option linter.unusedVariables false
set_option linter.unusedSimpArgs false
attribute [local go_sem] max2_int min2_int max_two min_two

theorem slSl : SlT Try.prog 48 24 1 24 := SlT.of (z := .slice none 0 0) Try.underlying48 (by kernel_rfl) rfl (by decide)
theorem rgParts_snoc (R : List (Int × Int)) (r : Int × Int) : rgParts (R ++ [r]) = rgParts R ++ [putBE 4 r.1, putBE 4 r.2] := by simp [rgParts]
theorem rgParts_len2 (R : List (Int × Int)) : (rgParts R).length = R.length * 2 := by
  induction R with
  | nil => rfl
  | cons p ps ih => unfold rgParts at *; rw [List.flatMap_cons, List.length_append, ih, List.length_cons]; simp; omega
/-- The parts' bytes lie in none of the slice's own cells. -/
def FarS (ob : Option Nat) (U : Nat) (vs : List Value) : Prop := ∀ v ∈ vs, ∀ ad n c, v = .slice (some ad) n c → some ad.block ≠ ob ∧ ad.block < U
theorem EachS.frO {W W' : World} {ob : Option Nat} {U : Nat} (hf : Fr (Opt ob) W W') : ∀ {vs : List Value} {xss : List (List UInt8)}, EachS W vs xss → FarS ob U vs → EachS W' vs xss
  | [], [], _, _ => trivial
  | v :: vs, x :: xss, ⟨⟨A, n, c, e1, e2, e3⟩, h⟩, hF => ⟨⟨A, n, c, e1, e2, e3.fr hf (fun ad e ho => (hF v (by simp) ad n c (by rw [e1, e])).1 ho)⟩, EachS.frO hf h (fun u hu => hF u (by simp [hu]))⟩
  | [], _ :: _, h, _ => h.elim
  | _ :: _, [], h, _ => h.elim
theorem far_lt {w : World} {A : Option Addr} {n c : Nat} {x : List UInt8} (h : Rd B w A x) (h0 : 0 < x.length) {U : Nat} (hU : w.heap.size ≤ U) {ad : Addr} {n' c' : Nat} (e : Value.slice A n c = .slice (some ad) n' c') : ad.block < U := by
  injection e with e _ _
  subst e
  exact Nat.lt_of_lt_of_le (h.lt h0) hU
set_option maxRecDepth 100000 in
set_option maxHeartbeats 3200000 in
theorem wr4_calls (K : Int) (U : Nat) (F : Int) (S : Nat) (Z P Y X Q C : Int) (R : List (Int × Int)) (rA dA : Option Addr) (rn rc dn dc : Nat) (w : World) (hX : -9223372036854775808 ≤ X ∧ X ≤ 9223372036854775807) (hb : ∀ r ∈ R, 0 ≤ r.1 ∧ r.1 < 4294967296 ∧ 0 ≤ r.2 ∧ r.2 < 4294967296) (hR : R.length = rn) (hr : Cells w rA (rngC R)) (hl : rn ≤ 4) :
    Calls Try.prog 46 #[.agg #[.int .i64 K, .int .u32 (U : Int), .int .i64 F, .int .u32 (S : Int), .int .i64 Z, .int .i64 P, .int .i64 Y, .int .i64 X, .int .i64 Q, .int .i64 C, .slice rA rn rc, .slice dA dn dc]] w (RetP w ([putBE 4 X, putBE 1 (R.length : Int)] ++ rgParts R)) := by
  obtain ⟨g, hgg⟩ : ∃ g, g = w.heap.size := ⟨_, rfl⟩
  have HG := hid hgg
  have HR := hid (And.intro hR (And.intro hr hb))
  go_enter Try.func46, Try.ntmps46
  go_wp2_with fail
  obtain ⟨w1, hw1⟩ : ∃ W, W = w.alloc (.cells #[.int .i64 K, .int .u32 (U : Int), .int .i64 F, .int .u32 (S : Int), .int .i64 Z, .int .i64 P, .int .i64 Y, .int .i64 X, .int .i64 Q, .int .i64 C, .slice rA rn rc, .slice dA dn dc] 26) := ⟨_, rfl⟩
  rw [← hw1, ← hgg]
  obtain ⟨c0, c1, c2, c3, c4, c5, c6, c7, c8, c9, c10, c11⟩ := blk12 (show w1.heap[g]? = some (.cells #[.int .i64 K, .int .u32 (U : Int), .int .i64 F, .int .u32 (S : Int), .int .i64 Z, .int .i64 P, .int .i64 Y, .int .i64 X, .int .i64 Q, .int .i64 C, .slice rA rn rc, .slice dA dn dc] 26 (0, 0)) by rw [hw1, hgg]; exact heap_new _ _)
  have hf1 : Fr No w w1 := by rw [hw1]; exact (Fr.refl No w).alloc _
  have hg1 : g < w1.heap.size := lt_of_cell c0
  have HF := hid hf1
  clear hf1 hw1 hgg c0 c1 c2 c3 c4 c5 c6 c8 c9 c11 hR hr hb
  go_region_held3 (fun w' => w'.cell? ⟨g, 7, none⟩ = some (.int .i64 X) ∧ w'.cell? ⟨g, 10, none⟩ = some (.slice rA rn rc))
    (first | assumption | (refine keepC2a ?_ (by assumption); first | omega | (simp; omega)) | exact ⟨c7, c10⟩ | exact keepC2 N3.out.2.2.2 (by first | omega | (simp; omega)) (fun h => h) (by assumption) | exact keepC2 N2.out.2.2.2 (by first | omega | (simp; omega)) (fun h => h) (by assumption))
    (first
      | (go_at_call 19; (with_reducible refine (sbig_calls 4 X 4 cut8_4 _ hX).mono ?_); rintro e w2 ⟨A2, c2', rfl, N2⟩; have hg2 : g < w2.heap.size := by have := N2.out.2.2.2.size; (try simp at this); omega)
      | (go_at_call 19; (with_reducible refine (sbig_calls 1 (rn : Int) 1 cut8_1 _ (by omega)).mono ?_); rintro e w3 ⟨A3, c3', rfl, N3⟩; have hg3 : g < w3.heap.size := by have := N3.out.2.2.2.size; (try simp at this); omega))
  all_goals
    rename_i hHeldX
    obtain ⟨d7, d10⟩ := hHeldX
    have hE : EachS w3 [.slice A2 4 c2', .slice A3 1 c3'] [putBE 4 X, putBE 1 (R.length : Int)] := by
      rw [HR.out.1]
      refine ⟨EachS.one N2.out.1 ?_, EachS.one N3.out.1 ?_, trivial⟩
      all_goals repeat (first | with_reducible exact N2.out.2.1 | with_reducible exact N3.out.2.1 | with_reducible refine Rd.fr0 ?_ N3.out.2.2.2 | with_reducible refine Rd.drew ?_)
    have hF3 : Fr No w w3 := by
      repeat (first | with_reducible exact HF.out | with_reducible refine Fr.then ?_ N3.out.2.2.2 | with_reducible refine Fr.then ?_ N2.out.2.2.2 | with_reducible refine Fr.drew ?_)
    have hrow : Row (w3.alloc (.cells #[.slice A2 4 c2', .slice A3 1 c3'] 24)) 1 (.slice (some ⟨w3.heap.size, 0, none⟩) 2 2) (some w3.heap.size) 2 [.slice A2 4 c2', .slice A3 1 c3'] := Row.new w3 1 2 [.slice A2 4 c2', .slice A3 1 c3'] 24 rfl (by omega)
    have hfar : FarS (some w3.heap.size) (w3.heap.size + 1) [.slice A2 4 c2', .slice A3 1 c3'] := fun v hv ad n c e => by
      have hs := N3.out.2.2.2.size
      (try simp only [World.size_drew] at hs)
      have hlt : ad.block < w3.heap.size := by
        simp only [List.mem_cons, List.not_mem_nil, or_false] at hv
        rcases hv with rfl | rfl
        · exact far_lt N2.out.2.1 (by rw [N2.out.1]; omega) hs e
        · exact far_lt N3.out.2.1 (by rw [N3.out.1]; omega) (Nat.le_refl _) e
      exact ⟨fun h => by injection h with h; omega, by omega⟩
    have H0 := hid (And.intro (hE.fr0 ((Fr.refl No w3).alloc (.cells #[.slice A2 4 c2', .slice A3 1 c3'] 24))) (And.intro (hF3.alloc (.cells #[.slice A2 4 c2', .slice A3 1 c3'] 24)) (And.intro hrow (And.intro hF3.size hfar))))
    clear hE hF3 hrow hfar c7 c10 d7
    go_wp2_with fail
    go_loopw [3, 17] (fun v i wr => ∃ (k : Nat) (A : Option Addr) (c : Nat) (ob : Option Nat) (vs : List Value), k ≤ rn ∧ i = .int .i64 k ∧ v = .slice A (2 + k * 2) c ∧
        Hid (Row wr 1 (.slice A (2 + k * 2) c) ob (2 + k * 2) vs ∧ EachS wr vs ([putBE 4 X, putBE 1 (R.length : Int)] ++ rgParts (R.take k)) ∧ (∀ q, ob = some q → w.heap.size ≤ q) ∧ Fr No w wr ∧ FarS ob wr.heap.size vs)) (fun _ i _ => rn - (intOf i).toNat)
    case atStart => exact ⟨0, _, _, _, _, by omega, rfl, rfl, H0.out.2.2.1, by simpa [rgParts] using H0.out.1, fun q e => by injection e with e; have := H0.out.2.2.2.1; omega, H0.out.2.1, by rw [World.size_alloc]; exact H0.out.2.2.2.2⟩
    case round =>
      obtain ⟨k, A, c, ob, vs, hk, rfl, rfl, HE⟩ := hrel
      by_cases hlt : k < rn
      · have hkl : k < R.length := by rw [HR.out.1]; exact hlt
        obtain ⟨ad, rfl, a0, a1⟩ := cells2 (HR.out.2.1.fr HE.out.2.2.2.1 (fun _ _ h => h)) k hkl
        obtain ⟨⟨a, b⟩, hab⟩ : ∃ r, r = R[k] := ⟨_, rfl⟩
        have hbd := HR.out.2.2 R[k] (List.getElem_mem hkl)
        have hT : rgParts (R.take (k + 1)) = rgParts (R.take k) ++ [putBE 4 a, putBE 4 b] := by rw [take_snocR R k hkl, rgParts_snoc, ← hab]
        rw [← hab] at a0 a1 hbd
        obtain ⟨b1, b2, b3, b4⟩ := hbd
        simp only at b1 b2 b3 b4
        have HT := hid hT
        clear hT hab hkl
        go_wp2_with fail
        obtain ⟨h, hh⟩ : ∃ h, h = wr.heap.size := ⟨_, rfl⟩
        obtain ⟨Y, hY⟩ : ∃ Y, Y = wr.alloc (.cells #[.int .i64 a, .int .i64 b] 53) := ⟨_, rfl⟩
        rw [← hY, ← hh]
        have hbY : Y.heap[h]? = some (.cells #[.int .i64 a, .int .i64 b] 53 (0, 0)) := by rw [hY, hh]; exact heap_new _ _
        have e0 : Y.cell? ⟨h, 0, none⟩ = some (.int .i64 a) := by simp [World.cell?, hbY]
        have e1 : Y.cell? ⟨h, 1, none⟩ = some (.int .i64 b) := by simp [World.cell?, hbY]
        have hh1 : h < Y.heap.size := lt_of_cell e0
        have HFY := hid (show Fr No wr Y by rw [hY]; exact (Fr.refl _ _).alloc _)
        have HH := hid hh
        clear hY hh hbY a0 a1
        go_region_held3 (fun w' => w'.cell? ⟨h, 0, none⟩ = some (.int .i64 a) ∧ w'.cell? ⟨h, 1, none⟩ = some (.int .i64 b))
          (first | assumption | (refine keepC2a ?_ (by assumption); first | omega | (simp; omega)) | exact ⟨e0, e1⟩ | exact keepC2 F6 (by first | omega | (simp; omega)) H6n.out (by assumption) | exact keepC2 N5.out.2.2.2 (by first | omega | (simp; omega)) (fun h => h) (by assumption) | exact keepC2 N4.out.2.2.2 (by first | omega | (simp; omega)) (fun h => h) (by assumption))
          (first
            | (go_at_call 19; have := N4; (with_reducible refine (sbig2_calls 4 b 4 cut8_4 _ (by omega)).mono ?_); rintro e w5 ⟨A5, c5', rfl, N5, G5⟩; have hh5 : h < w5.heap.size := by have := N5.out.2.2.2.size; (try simp at this); omega
               have hF5 : Fr No wr w5 := by
                 repeat (first | with_reducible exact HFY.out | with_reducible refine Fr.then ?_ N5.out.2.2.2 | with_reducible refine Fr.then ?_ N4.out.2.2.2 | with_reducible refine Fr.drew ?_)
               have HF5 := hid hF5
               have hE5 : EachS w5 [.slice A4 4 c4', .slice A5 4 c5'] [putBE 4 a, putBE 4 b] := by
                 refine ⟨EachS.one N4.out.1 ?_, EachS.one N5.out.1 ?_, trivial⟩
                 all_goals repeat (first | with_reducible exact N4.out.2.1 | with_reducible exact N5.out.2.1 | with_reducible refine Rd.fr0 ?_ N5.out.2.2.2 | with_reducible refine Rd.drew ?_)
               have HE5 := hid hE5
               clear hE5 hF5)
            | (go_at_call 19; (with_reducible refine (sbig2_calls 4 a 4 cut8_4 _ (by omega)).mono ?_); rintro e w4 ⟨A4, c4', rfl, N4, G4⟩; have hh4 : h < w4.heap.size := by have := N4.out.2.2.2.size; (try simp at this); omega)
            | (refine step_app slSl rfl (.tmp 21) (.tmp 28) rfl rfl ((HE.out.1.fr HF5.out (fun _ _ h => h)).fr ((Fr.refl No w5).alloc _) (fun _ _ h => h)) rfl (show ([.slice A4 4 c4', .slice A5 4 c5'] : List Value).length = 2 * 1 from rfl) (cells_new w5 [.slice A4 4 c4', .slice A5 4 c5'] 24) (oneSl HE5.out) (by omega) (by omega) ?_
               intro A6 c6 w6 ob6 hv6 F6 hob6
               have H6n := hid (show ¬ Opt ob h from fun e => by have := HE.out.1.lt e.symm; have := HH.out; omega)))
        all_goals
          rename_i hHeldY
          have hl6 : 2 + k * 2 + 2 = 2 + (k + 1) * 2 := by omega
          rw [hl6] at hv6 ⊢
          have s1 := HFY.out.size
          have s4 := N4.out.2.2.2.size
          have s5 := N5.out.2.2.2.size
          (try simp only [World.size_drew] at s4 s5)
          have hob : ∀ q, ob = some q → q < wr.heap.size := fun q hq => HE.out.1.lt hq
          have hfar : FarS ob w5.heap.size (vs ++ [.slice A4 4 c4', .slice A5 4 c5']) := fun v hv ad n c e => by
            rcases List.mem_append.1 hv with hv | hv
            · obtain ⟨q1, q2⟩ := HE.out.2.2.2.2 v hv ad n c e
              exact ⟨q1, by omega⟩
            · simp only [List.mem_cons, List.not_mem_nil, or_false] at hv
              rcases hv with rfl | rfl
              · have h1 := far_lt N4.out.2.1 (by rw [N4.out.1]; omega) s5 e
                injection e with e _ _
                have h2 := G4.out ad e
                (try simp only [World.size_drew] at h2)
                exact ⟨fun h => by have := hob _ h.symm; omega, h1⟩
              · have h1 := far_lt N5.out.2.1 (by rw [N5.out.1]; omega) (Nat.le_refl _) e
                injection e with e _ _
                have h2 := G5.out ad e
                (try simp only [World.size_drew] at h2)
                exact ⟨fun h => by have := hob _ h.symm; omega, h1⟩
          have hE6 : EachS w6 (vs ++ [.slice A4 4 c4', .slice A5 4 c5']) ([putBE 4 X, putBE 1 (R.length : Int)] ++ rgParts (R.take (k + 1))) := by
            rw [HT.out, ← List.append_assoc]
            exact (EachS.fr0 ((Fr.refl No w5).alloc _) ((HE.out.2.1.fr0 HF5.out).append HE5.out)).frO F6 hfar
          have s6 := F6.size
          (try simp only [World.size_alloc, World.size_drew] at s6 hob6)
          have hfar6 : FarS ob6 w6.heap.size (vs ++ [.slice A4 4 c4', .slice A5 4 c5']) := fun v hv ad n c e => by
            obtain ⟨q1, q2⟩ := hfar v hv ad n c e
            refine ⟨fun h => ?_, by omega⟩
            rcases hob6 with h' | ⟨j, h', hj⟩
            · rw [h'] at h; exact q1 h
            · rw [h'] at h; injection h with h; omega
          have hob6' : ∀ q, ob6 = some q → w.heap.size ≤ q := fun q hq => by
            have := HE.out.2.2.2.1.size
            rcases hob6 with h' | ⟨j, h', hj⟩
            · exact HE.out.2.2.1 q (by rw [← h']; exact hq)
            · rw [h'] at hq; injection hq with hq; omega
          have H6 := hid (And.intro hv6 (And.intro hE6 (And.intro hob6' (And.intro ((HE.out.2.2.2.1.then (HF5.out.alloc _)).fresh F6 HE.out.2.2.1) hfar6))))
          clear hHeldY hl6 hv6 F6 hob6 hob6' hfar hfar6 hE6 s1 s4 s5 s6 hob
          go_wp2_with fail
          go_roundw
          case rel => exact ⟨k + 1, A6, c6, ob6, _, by omega, by go_num, rfl, H6⟩
          case measure => simp [intOf] <;> omega
      · obtain rfl : k = rn := by omega
        have hT : R.take k = R := List.take_of_length_le (by rw [HR.out.1]; exact Nat.le_refl _)
        have HE2 := HE.out
        rw [hT] at HE2
        have HO := hid HE2
        clear HE2 hT hlt
        go_wp2_with fail
        go_ret
        have hc := HO.out.1.cells
        obtain ⟨A', c', e1, e2, e3, _⟩ := hc
        injection e1 with q1 q2 q3
        subst q1
        subst q3
        exact ⟨_, _, _, vs, rfl, by have := HO.out.1.1; simpa using this, e2, Rd.cells.2 (by rw [List.map_id']; exact e3), HO.out.2.1, HO.out.2.2.2.1⟩
end Go.Proofs.Ytamkfjbdcjkchaa
