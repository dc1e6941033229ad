/- The contract of the lines that adam.over goes over. -/
import Derived.Test.YtkhglmmidgfliaaAcross
import Derived.Test.YtkhglmmidgfliaaRangeT
import Derived.Shelf.Abstract
import Derived.Shelf.RegionOpen
import Derived.OwnWalkIn
import Derived.TacticsInMore
import Derived.LoopNIn
import Derived.LoopIn
import Derived.WalkMore
namespace Go.Proofs.Ytkhglmmidgfliaa
open Go.RowKit Go.Proofs.HK
set_option linter.unusedVariables false
set_option linter.unusedSimpArgs false
attribute [local go_sem] Oper.semAt_some

structure PN where
  X : Nat
  Y : Nat
  DX : Nat
  DY : Nat
  W : Nat
  H : Nat
def PN.ok (p : PN) : Prop := p.X ≤ 4096 ∧ p.Y ≤ 4096 ∧ p.DX ≤ 2048 ∧ p.DY ≤ 2048 ∧ p.W ≤ 4096 ∧ p.H ≤ 4096
def passC (p : PN) : List Value := [.int .i64 p.X, .int .i64 p.Y, .int .i64 p.DX, .int .i64 p.DY, .int .i64 p.W, .int .i64 p.H]
def passesC (ps : List PN) : List Value := ps.flatMap passC
def linesOf (i : Nat) (p : PN) : List (Nat × List (Nat × Nat)) := (List.range p.H).map fun row => (i, spotRow p.X p.Y p.DX p.DY p.W row)
def itemsF : Nat → List PN → List (Nat × List (Nat × Nat))
  | _, [] => []
  | i, p :: ps => linesOf (i + 1) p ++ itemsF (i + 1) ps
def preN (ps : List PN) (i : Nat) : Nat := (itemsF 0 (ps.take i)).length
theorem linesOf_length (i : Nat) (p : PN) : (linesOf i p).length = p.H := by simp [linesOf]
theorem itemsF_append (l m : List PN) : ∀ j, itemsF j (l ++ m) = itemsF j l ++ itemsF (j + l.length) m := by
  induction l with
  | nil => intro j; rfl
  | cons p l ih => intro j; rw [List.cons_append, itemsF, itemsF, ih (j + 1), List.append_assoc, List.length_cons, show j + 1 + l.length = j + (l.length + 1) by omega]
theorem preN_succ (ps : List PN) (i : Nat) (h : i < ps.length) : preN ps (i + 1) = preN ps i + ps[i].H := by
  unfold preN
  rw [List.take_succ_eq_append_getElem h, itemsF_append, List.length_append]
  simp [itemsF, linesOf_length]
theorem items_split (ps : List PN) (i : Nat) (h : i < ps.length) : itemsF 0 ps = itemsF 0 (ps.take i) ++ (linesOf (i + 1) ps[i] ++ itemsF (i + 1) (ps.drop (i + 1))) := by
  conv => lhs; rw [← List.take_append_drop i ps]
  rw [itemsF_append, List.drop_eq_getElem_cons h, List.length_take, Nat.min_eq_left (by omega), Nat.zero_add]
  rfl
theorem items_get (ps : List PN) (i : Nat) (h : i < ps.length) (row : Nat) (hr : row < ps[i].H) : (itemsF 0 ps)[preN ps i + row]? = some (i + 1, spotRow ps[i].X ps[i].Y ps[i].DX ps[i].DY ps[i].W row) := by
  rw [items_split ps i h, List.getElem?_append_right (by unfold preN; omega)]
  rw [show preN ps i + row - (itemsF 0 (ps.take i)).length = row by unfold preN; omega, List.getElem?_append_left (by rw [linesOf_length]; exact hr)]
  simp [linesOf, hr]
theorem preN_le (ps : List PN) (i : Nat) (h : i < ps.length) : preN ps i + ps[i].H ≤ (itemsF 0 ps).length := by
  rw [items_split ps i h, List.length_append, List.length_append, linesOf_length]; unfold preN; omega
theorem preN_all (ps : List PN) : preN ps ps.length = (itemsF 0 ps).length := by unfold preN; rw [List.take_of_length_le (Nat.le_refl _)]
theorem passesC_length (ps : List PN) : (passesC ps).length = ps.length * 6 := by
  induction ps with
  | nil => rfl
  | cons p ps ih => unfold passesC at *; rw [List.flatMap_cons, List.length_append, ih, List.length_cons]; simp [passC]; omega
theorem passesC_get (ps : List PN) (i j : Nat) (hi : i < ps.length) (hj : j < 6) : (passesC ps)[i * 6 + j]? = (passC ps[i])[j]? := by
  induction ps generalizing i with
  | nil => simp at hi
  | cons p ps ih =>
    unfold passesC at *
    rw [List.flatMap_cons]
    cases i with
    | zero => rw [List.getElem?_append_left (by simp [passC]; omega)]; simp
    | succ i =>
      rw [List.getElem?_append_right (by simp [passC]; omega)]
      have := ih i (by simpa using hi)
      rw [show (i + 1) * 6 + j - (passC p).length = i * 6 + j by simp [passC]; omega, this]
      simp
theorem cells6 {w : World} {ad : Addr} {ps : List PN} (h : Cells w (some ad) (passesC ps)) (i : Nat) (hi : i < ps.length) :
    w.cell? (ad.add (i * 6)) = some (.int .i64 ps[i].X) ∧ w.cell? ⟨(ad.add (i * 6)).block, (ad.add (i * 6)).off + 1, none⟩ = some (.int .i64 ps[i].Y) ∧
    w.cell? ⟨(ad.add (i * 6)).block, (ad.add (i * 6)).off + 2, none⟩ = some (.int .i64 ps[i].DX) ∧ w.cell? ⟨(ad.add (i * 6)).block, (ad.add (i * 6)).off + 3, none⟩ = some (.int .i64 ps[i].DY) ∧
    w.cell? ⟨(ad.add (i * 6)).block, (ad.add (i * 6)).off + 4, none⟩ = some (.int .i64 ps[i].W) ∧ w.cell? ⟨(ad.add (i * 6)).block, (ad.add (i * 6)).off + 5, none⟩ = some (.int .i64 ps[i].H) := by
  obtain ⟨ad', e, hc⟩ := h (by rw [passesC_length]; omega)
  injection e with e
  subst e
  have g : ∀ j v, (passC ps[i])[j]? = some v → j < 6 → w.cell? (ad.add (i * 6 + j)) = some v := fun j v hv hj => hc _ _ (by rw [passesC_get ps i j hi hj]; exact hv)
  exact ⟨g 0 _ rfl (by omega), cellAt (g 1 _ rfl (by omega)), cellAt (g 2 _ rfl (by omega)), cellAt (g 3 _ rfl (by omega)), cellAt (g 4 _ rfl (by omega)), cellAt (g 5 _ rfl (by omega))⟩
/-- What a round is handed: the pass, and the places of its row, just made. -/
def ovOk (ps : List PN) (L0 k : Nat) (args : Array Value) (W : World) : Prop :=
  ∃ it A n c ob, (itemsF 0 ps)[k]? = some it ∧ args = #[.int .i64 (it.1 : Nat), .slice A n c] ∧ it.2.length = n ∧ Row W 2 (.slice A n c) ob n (spotC it.2) ∧ ∀ b, ob = some b → L0 ≤ b
set_option maxRecDepth 100000 in
set_option maxHeartbeats 3200000 in
theorem over_seq (nn : Nat) (hnn : 2 ≤ nn) (A : Option Addr) (c : Nat) (ps : List PN) (g L U : Nat) (w : World) (hps : ∀ p ∈ ps, p.ok) (hlen : ps.length ≤ 100) (hgL : L ≤ g ∧ g < U) (hAL : ∀ ad, A = some ad → L ≤ ad.block ∧ ad.block < U)
    (h0 : w.cell? ⟨g, 0, none⟩ = some (.slice A ps.length c)) (hA : Cells w A (passesC ps)) :
    SeqT Fence.wide nn Try.prog 65 #[.pointer (some ⟨g, 0, none⟩)] (itemsF 0 ps).length (ovOk ps) L U w := by
  intro l J Jx W T0 hl hsz hkeep hT0 hJ hJx hY hJ0
  have e0 : ∀ W', KeepLU L U w W' → W'.cell? ⟨g, 0, none⟩ = some (.slice A ps.length c) ∧ Cells W' A (passesC ps) := fun W' hk =>
    ⟨(World.cell?_of_block (hk g hgL.1 hgL.2)).trans h0, hA.keep (fun ad e _ => hk _ (hAL ad e).1 (hAL ad e).2)⟩
  have HE := hid e0
  have HJ := hid (And.intro hJ (And.intro hJx (And.intro hsz (And.intro hkeep hl))))
  have HY := hid hY
  have HPS := hid hps
  obtain ⟨c0, _⟩ := e0 W hkeep
  clear e0 hJ hJx hsz hkeep hY h0 hA hps hl hAL
  refine callsIn_of_wp Try.func65 rfl trivial ?_ rfl
  simp only [Try.ntmps65, List.size_toArray, List.length_cons, List.length_nil, Nat.reduceAdd, Nat.reduceSub, Array.replicate_succ, Array.replicate_zero, List.push_toArray, List.append_toArray, List.nil_append, List.cons_append]
  obtain ⟨n, hn⟩ : ∃ n, n = ps.length := ⟨_, rfl⟩
  rw [← hn] at c0 hlen
  have HN := hid hn
  clear hn
  gi_wp2
  refine wpIn_wide.2 (wp_scope_straight ((wpIn_wide (n := nn)).1 ?_))
  refine wpIn_seq (wpIn_label ?_)
  gi_wp2
  gi_loopw [8] (fun x wr => ∃ (i : Nat) (T : Nat → Prop), x = .int .i64 i ∧ Hid (i ≤ n ∧ J (preN ps i) T wr ∧ KeepLU L U W wr ∧ W.heap.size ≤ wr.heap.size ∧ ∀ b, T b → b < wr.heap.size ∧ ¬ (L ≤ b ∧ b < U))) (fun x _ => n - (intOf x).toNat)
  case atStart => exact ⟨0, T0, rfl, Nat.zero_le _, hJ0, KeepLU.refl _ _ _, Nat.le_refl _, hT0⟩
  case round =>
    obtain ⟨i, T, rfl, HR⟩ := hrel
    by_cases hlt : i < n
    · have hlt' : (i : Int) < (n : Int) := by omega
      have hin : i < ps.length := by rw [← HN.out]; exact hlt
      have hcc := (HE.out wr (HJ.out.2.2.2.1.trans HR.out.2.2.1)).2
      obtain ⟨ad, rfl⟩ : ∃ ad, A = some ad := by obtain ⟨ad, e, _⟩ := hcc (by rw [passesC_length]; omega); exact ⟨ad, e⟩
      obtain ⟨q0, q1, q2, q3, q4, q5⟩ := cells6 hcc i hin
      obtain ⟨p, hp⟩ : ∃ p, p = ps[i] := ⟨_, rfl⟩
      rw [← hp] at q0 q1 q2 q3 q4 q5
      have HP := hid hp
      clear hp hcc
      gi_wp2
      obtain ⟨gb, hgb⟩ : ∃ gb, gb = wr.heap.size := ⟨_, rfl⟩
      obtain ⟨wb, hwb⟩ : ∃ wb, wb = wr.alloc (.cells #[.int .i64 p.X, .int .i64 p.Y, .int .i64 p.DX, .int .i64 p.DY, .int .i64 p.W, .int .i64 p.H] 24) := ⟨_, rfl⟩
      have hfb : Fr No wr wb := by rw [hwb]; exact (Fr.refl _ _).alloc _
      have hbb : wb.heap[gb]? = some (.cells #[.int .i64 p.X, .int .i64 p.Y, .int .i64 p.DX, .int .i64 p.DY, .int .i64 p.W, .int .i64 p.H] 24 (0, 0)) := by rw [hwb, hgb]; exact heap_new _ _
      have hsb : wb.heap.size = gb + 1 := by rw [hwb, World.size_alloc, hgb]
      have hWgb : W.heap.size ≤ gb := by rw [hgb]; exact HR.out.2.2.2.1
      have hUW : U < W.heap.size := by have := HJ.out.2.2.2.2; omega
      have hTb : ∀ b, T b → b < gb ∧ ¬ (L ≤ b ∧ b < U) := fun b hb => by rw [hgb]; exact HR.out.2.2.2.2 b hb
      have hok : p.ok := HPS.out p (by rw [HP.out]; exact List.getElem_mem hin)
      have hkl : KeepLU L U W wb := HR.out.2.2.1.trans (KeepLU.of_fr hfb (by have := HR.out.2.2.2.1; omega) (fun _ _ _ h => h))
      have HIN := hid (And.intro (HJ.out.1 _ _ _ _ HR.out.2.1 hfb) (And.intro hkl (And.intro hTb hbb)))
      rw [← hwb, ← hgb]
      clear hgb hwb hfb hbb hTb hkl q0 q1 q2 q3 q4 q5
      gi_loopw [15] (fun x w2 => ∃ (row : Nat) (T2 : Nat → Prop), x = .int .i64 row ∧ Hid (row ≤ p.H ∧ J (preN ps i + row) T2 w2 ∧ KeepLU L U W w2 ∧ gb + 1 ≤ w2.heap.size ∧ (∀ b, T2 b → b < w2.heap.size ∧ ¬ (L ≤ b ∧ b < U) ∧ b ≠ gb) ∧
          w2.heap[gb]? = some (.cells #[.int .i64 p.X, .int .i64 p.Y, .int .i64 p.DX, .int .i64 p.DY, .int .i64 p.W, .int .i64 p.H] 24 (0, 0)))) (fun x _ => p.H - (intOf x).toNat)
      case atStart => exact ⟨0, T, rfl, Nat.zero_le _, HIN.out.1, HIN.out.2.1, by omega, fun b hb => ⟨by have := HIN.out.2.2.1 b hb; omega, (HIN.out.2.2.1 b hb).2, by have := HIN.out.2.2.1 b hb; omega⟩, HIN.out.2.2.2⟩
      case round =>
        obtain ⟨row, T2, rfl, HS⟩ := hrel
        obtain ⟨⟨p0, p1, p2, p3, p4, p5⟩, _⟩ := blk6 HS.out.2.2.2.2.2
        have hH4 : p.H ≤ 4096 := hok.2.2.2.2.2
        by_cases hlt2 : row < p.H
        · have hlt2' : (row : Int) < (p.H : Int) := by omega
          have hpre : preN ps i + row < (itemsF 0 ps).length := by have := preN_le ps i hin; rw [← HP.out] at this; omega
          have hitem := items_get ps i hin row (by rw [← HP.out]; exact hlt2)
          rw [← HP.out] at hitem
          have HIT := hid (And.intro hpre (And.intro hitem hok))
          clear hpre hitem
          gi_wp2
          refine ⟨trivial, (fun h => by cases h), (callsIn_wide.2 (across_calls p.X p.Y p.DX p.DY p.W p.H row hok.1 hok.2.1 hok.2.2.1 hok.2.2.2.1 hok.2.2.2.2.1 (by have := hok.2.2.2.2.2; omega) _)).mono ?_⟩
          rintro e w3 ⟨v, rfl, A3, n3, c3, ob3, rfl, hl3, hrow3, hob3, hf3⟩
          have hs3 := hf3.size
          have hblk : ∀ b, blkOf #[.int .i64 ((i : Int) + 1), .slice A3 n3 c3] b → gb + 1 ≤ b := fun b hb => by
            obtain ⟨q, ad3, m3, d3, h1, h2⟩ := hb
            have hq : q = 0 ∨ q = 1 ∨ 2 ≤ q := by omega
            rcases hq with rfl | rfl | hq
            · cases h1
            · have h1 : Value.slice A3 n3 c3 = .slice (some ad3) m3 d3 := Option.some.inj h1
              injection h1 with h1 _ _
              obtain ⟨A', c', e', _, _, hA'⟩ := hrow3.cells
              injection e' with e1 _ _
              have := hob3 ad3.block (hA' ad3 (by rw [← e1]; exact h1))
              have := HS.out.2.2.2.1
              omega
            · rw [Array.getElem?_eq_none (by simpa using hq)] at h1; cases h1
          have hblk2 : ∀ b, blkOf #[.int .i64 ((i : Int) + 1), .slice A3 n3 c3] b → ¬ T2 b := fun b hb hT => by
            obtain ⟨q, ad3, m3, d3, h1, h2⟩ := hb
            have hq : q = 0 ∨ q = 1 ∨ 2 ≤ q := by omega
            rcases hq with rfl | rfl | hq
            · cases h1
            · have h1 : Value.slice A3 n3 c3 = .slice (some ad3) m3 d3 := Option.some.inj h1
              injection h1 with h1 _ _
              obtain ⟨A', c', e', _, _, hA'⟩ := hrow3.cells
              injection e' with e1 _ _
              have := hob3 ad3.block (hA' ad3 (by rw [← e1]; exact h1))
              have := HS.out.2.2.2.2.1 _ hT
              omega
            · rw [Array.getElem?_eq_none (by simpa using hq)] at h1; cases h1
          obtain ⟨fn, tmps, assign, body, hy, hRR⟩ := HY.out (preN ps i + row) T2 #[.int .i64 ((i : Int) + 1), .slice A3 n3 c3] w3 HIT.out.1 (HJ.out.1 _ _ _ _ HS.out.2.1 hf3) (fun b hb => ⟨by have := HS.out.2.2.2.2.1 b hb; omega, fun e => hblk2 b e hb⟩) (by have := HS.out.2.2.2.1; omega)
            ⟨_, A3, n3, c3, ob3, HIT.out.2.1, rfl, hl3, hrow3, fun b hb => by have := hob3 b hb; have := HS.out.2.2.2.1; omega⟩
          have HH := hid (And.intro hblk (And.intro hf3 hs3))
          clear hblk hblk2 hf3 hs3 hrow3 hob3 hl3
          gi_wp2
          refine ⟨(fun h => by cases h), hRR.mono ?_⟩
          rintro e W3 (⟨rfl, T3, hJ3, hf4, hT3⟩ | ⟨rfl, hJx3⟩)
          · have hlW := HJ.out.2.2.2.2
            have hnb : ∀ b, (L ≤ b ∧ b < U) ∨ b = gb → ¬ (T2 b ∨ blkOf #[.int .i64 ((i : Int) + 1), .slice A3 n3 c3] b ∨ b = l) := fun b hb e => by
              rcases e with e | e | e
              · have := HS.out.2.2.2.2.1 b e; rcases hb with hb | hb
                · exact this.2.1 hb
                · exact this.2.2 hb
              · have := HH.out.1 b e; omega
              · omega
            have hs4 := hf4.size
            have hsw := HS.out.2.2.2.1
            have hs3 := HH.out.2.2
            have HNX := hid (And.intro hJ3 (And.intro (show KeepLU L U W W3 from (HS.out.2.2.1.trans (KeepLU.of_fr HH.out.2.1 (by omega) (fun _ _ _ h => h))).trans (KeepLU.of_fr hf4 (by omega) (fun b b1 b2 => hnb b (.inl ⟨b1, b2⟩)))) (And.intro (show gb + 1 ≤ W3.heap.size by omega)
              (And.intro (show ∀ b, T3 b → b < W3.heap.size ∧ ¬ (L ≤ b ∧ b < U) ∧ b ≠ gb from fun b hb => by
                have := hT3 b hb
                refine ⟨this.1, ?_⟩
                rcases this.2 with h | h
                · exact (HS.out.2.2.2.2.1 b h).2
                · exact ⟨by omega, by omega⟩)
              ((hf4.block gb (by omega) (hnb gb (.inr rfl))).trans ((HH.out.2.1.block gb (by omega) (fun h => h)).trans HS.out.2.2.2.2.2))))))
            clear hJ3 hf4 hT3 hnb hs4 hsw hs3 hy hRR p0 p1 p2 p3 p4 p5 hlW
            gi_wp2
            go_roundw
            case rel => exact ⟨row + 1, T3, by go_num, by omega, HNX.out⟩
            case measure => simp [intOf] <;> omega
          · clear hy hRR p0 p1 p2 p3 p4 p5
            gi_wp2
            (try rw [Exit.noGoto_normal])
            first | go_end0 | refine bodyPost_ret (results_none rfl _ _ _) rfl ?_
            exact ⟨⟨_, rfl⟩, .inr ⟨_, HIT.out.1, hJx3⟩⟩
        · have hre : row = p.H := by have := HS.out.1; omega
          have hge2 : ¬ ((row : Int) < (p.H : Int)) := by omega
          have hpn := preN_succ ps i hin
          rw [← HP.out, ← hre] at hpn
          have HE2 := hid hpn
          clear hre hpn hlt2 p0 p1 p2 p3 p4 p5
          gi_wp2
          go_roundw
          case rel => exact ⟨i + 1, T2, by go_num, by omega, by rw [HE2.out]; exact HS.out.2.1, HS.out.2.2.1, by have := HS.out.2.2.2.1; omega, fun b hb => ⟨(HS.out.2.2.2.2.1 b hb).1, (HS.out.2.2.2.2.1 b hb).2.1⟩⟩
          case measure => simp [intOf] <;> omega
    · have hie : i = n := by have := HR.out.1; omega
      have hge : ¬ ((i : Int) < (n : Int)) := by omega
      have hpa := preN_all ps
      rw [← HN.out, ← hie] at hpa
      have HE2 := hid hpa
      clear hie hlt hpa
      gi_wp2
      (try rw [Exit.noGoto_normal])
      first | go_end0 | refine bodyPost_ret (results_none rfl _ _ _) rfl ?_
      exact ⟨⟨_, rfl⟩, .inl ⟨T, by rw [← HE2.out]; exact HR.out.2.1⟩⟩
end Go.Proofs.Ytkhglmmidgfliaa
