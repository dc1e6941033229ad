/- The contract of slices.Chunk over bytes. -/
import Derived.Test.YtamkfjbdcjkchaaDoorOct
import Derived.Test.YtamkfjbdcjkchaaDoorRange
import Derived.Shelf.Abstract
import Derived.Shelf.RegionOpen
import Derived.OwnWalkIn
import Derived.TacticsInMore
import Derived.LoopNIn
import Derived.LoopIn
import Derived.Sort.BigQuietIn
namespace Go.Proofs.YtamkfjbdcjkchaaDoor
open Go.RowKit Go.Proofs.HK
set_option linter.unusedVariables false
set_option linter.unusedSimpArgs false
attribute [local go_sem] Oper.semAt_some
attribute [local go_sem] max2_int min2_int max_two min_two

/-- The k-th piece of m bytes, as it is handed over. -/
def chOk (A : Option Addr) (n c m : Nat) (_ k : Nat) (args : Array Value) (_ : World) : Prop := args = #[.slice (A.map (·.add (k * m))) (min m (n - k * m)) (min m (n - k * m))]
theorem cut_lhm {P : Program} {t e : TypeId} {sz bytes : Nat} (hT : SlT P t e sz bytes) (A : Option Addr) (len cap : Nat) (x y z : Int) (l m : Nat) (hx : x = l) (hy : y = (l : Int) + (m : Int)) (hz : z = (l : Int) + (m : Int)) (hm : 0 < m) (hc : l + m ≤ cap) :
    ∀ W, (Instr.slice t (.slice A len cap) (some (.int .i64 x)) (some (.int .i64 y)) (some (.int .i64 z))).run P W = .ok (.slice (A.map (·.add (l * sz))) m m) W := fun W => by
  subst hx
  subst hy
  subst hz
  rw [run_slice_lhm (P := P) W t A len cap (by rw [hT.elem]; exact hT.und) .i64 .i64 .i64 _ _ _ (by omega) (by omega) (by omega) (by omega), hT.elem, hT.sizeOf]
  have e1 : ((l : Int) + (m : Int)).toNat - l = m := by omega
  have e2 : (l : Int).toNat = l := by omega
  have e3 : ¬ (((l : Int) + (m : Int)).toNat = l) := by omega
  simp only [Result.andThen, sliced, e2, e1, e3, if_false]
set_option maxRecDepth 100000 in
theorem chunk_calls (A : Option Addr) (n c m : Nat) (w : World) (hm : 0 < m) :
    Calls Tryd.prog 32 #[.slice A n c, .int .i64 m] w fun e w' =>
      e = .returned (.func (.func 43) #[] #[.pointer (some ⟨w.heap.size, 0, none⟩), .pointer (some ⟨w.heap.size + 1, 0, none⟩)]) ∧
      w' = (w.alloc (.cells #[.slice A n c] 22)).alloc (.cells #[.int .i64 m] 3) := by
  have h1 : ¬ ((m : Int) < 1) := by omega
  go_enter Tryd.func32, Tryd.ntmps32
  go_wp2
  go_ret
  exact ⟨rfl, rfl⟩

set_option maxRecDepth 100000 in
set_option maxHeartbeats 2000000 in
theorem chunk_seq (nn : Nat) (hnn : 1 ≤ nn) (A : Option Addr) (n c m N g : Nat) (w : World) (hm : 0 < m) (hnc : n ≤ c) (hN1 : ∀ k, k < N ↔ k * m < n) (hn : n ≤ 140737488355328) (hm' : m ≤ 17592186043904)
    (h0 : w.cell? ⟨g, 0, none⟩ = some (.slice A n c)) (h1 : w.cell? ⟨g + 1, 0, none⟩ = some (.int .i64 m)) :
    SeqM Fence.wide nn Tryd.prog 43 #[.pointer (some ⟨g, 0, none⟩), .pointer (some ⟨g + 1, 0, none⟩)] N (chOk A n c m) g (g + 2) w := by
  intro l J Jx W hsz hkeep hJ hJx hY hJ0
  have e0 : ∀ W', KeepLU g (g + 2) w W' → W'.cell? ⟨g, 0, none⟩ = some (.slice A n c) ∧ W'.cell? ⟨g + 1, 0, none⟩ = some (.int .i64 m) := fun W' hk =>
    ⟨(World.cell?_of_block (hk g (Nat.le_refl _) (by omega))).trans h0, (World.cell?_of_block (hk (g + 1) (by omega) (by omega))).trans h1⟩
  have HE := hid e0
  have HN := hid hN1
  have HJ := hid (And.intro hJ (And.intro hJx (And.intro hsz hkeep)))
  have HY := hid hY
  obtain ⟨c0, c1⟩ := e0 W hkeep
  clear e0 hN1 hJ hJx hsz hkeep hY h0 h1
  refine callsIn_of_wp Tryd.func43 rfl trivial ?_ rfl
  simp only [Tryd.ntmps43, List.size_toArray, List.length_cons, List.length_nil, Nat.reduceAdd, Nat.reduceSub, Array.replicate_succ, Array.replicate_zero, List.push_toArray, List.append_toArray, List.nil_append, List.cons_append]
  gi_wp2
  gi_loopw [4] (fun i wr => ∃ k j : Nat, i = .int .i64 j ∧ Hid (j = k * m ∧ k ≤ N ∧ J k wr ∧ KeepLU g (g + 2) W wr ∧ W.heap.size ≤ wr.heap.size)) (fun i _ => n - (intOf i).toNat)
  case atStart => exact ⟨0, 0, rfl, by simp, Nat.zero_le _, hJ0, KeepLU.refl _ _ _, Nat.le_refl _⟩
  case round =>
    obtain ⟨k, j, rfl, HR⟩ := hrel
    obtain ⟨d0, d1⟩ := HE.out wr (HJ.out.2.2.2.trans HR.out.2.2.2.1)
    by_cases hlt : j < n
    · have hkN : k < N := (HN.out k).2 (by rw [← HR.out.1]; exact hlt)
      have hlt' : (j : Int) < (n : Int) := by omega
      have hsl := cut_l slU8 A n c (j : Int) j rfl (by omega)
      obtain ⟨mm, hmm⟩ : ∃ mm, mm = min m (n - j) := ⟨_, rfl⟩
      have hmn : mn (m : Int) ((n - j : Nat) : Int) = (mm : Int) := by rw [mn_eq, hmm]; omega
      have hmm0 : 0 < mm := by omega
      have hsl2 := cut_lhm slU8 A n c (j : Int) ((j : Int) + (mm : Int)) ((j : Int) + (mm : Int)) j mm rfl rfl rfl hmm0 (by omega)
      rw [Nat.mul_one] at hsl2
      have hmmn : j + mm ≤ n := by omega
      have HMM := hid hmm
      clear hmm
      gi_wp2
      gi_big_quiet_th (fail)
      have hjs : j = k * m := HR.out.1
      obtain ⟨fn, tmps, assign, body, hy, hRR⟩ := HY.out k #[.slice (A.map (·.add j)) mm mm] (wr.drewN nq) hkN (HJ.out.1 _ _ _ HR.out.2.2.1 ((Fr.refl No wr).drewN nq)) HR.out.2.2.2.2 (by show _ = _; rw [HMM.out, hjs])
      clear hjs
      gi_wp2
      refine hRR.mono ?_
      rintro e W3 (⟨rfl, hJ3, hk3, hs3⟩ | ⟨rfl, hJx3⟩)
      · have hkk : KeepLU g (g + 2) wr W3 := fun b b1 b2 => hk3 b b1 b2
        obtain ⟨q0, q1⟩ := HE.out W3 ((HJ.out.2.2.2.trans HR.out.2.2.2.1).trans hkk)
        have hs4 : wr.heap.size ≤ W3.heap.size := hs3
        have HF := hid (And.intro hJ3 (And.intro (HR.out.2.2.2.1.trans hkk) (Nat.le_trans HR.out.2.2.2.2 hs4)))
        clear hJ3 hk3 hs3 hkk hs4 hsl hsl2 hmn hy hRR d0 d1
        gi_wp2
        go_roundw
        case rel =>
          refine ⟨k + 1, j + m, by go_num, ?_, by omega, HF.out⟩
          rw [HR.out.1, Nat.succ_mul]
        case measure => simp [intOf] <;> omega
      · clear hsl hsl2 hmn hy hRR d0 d1
        gi_wp2
        first | go_end0 | refine bodyPost_ret (results_none rfl _ _ _) rfl ?_
        exact ⟨⟨_, rfl⟩, .inr ⟨k, hkN, hJx3⟩⟩
    · have hkN : k = N := by
        have h1 : ¬ k < N := fun h => by have h2 := (HN.out k).1 h; rw [← HR.out.1] at h2; omega
        have := HR.out.2.1
        omega
      have hge : ¬ ((j : Int) < (n : Int)) := by omega
      have HKN := hid hkN
      clear hkN hlt
      gi_wp2
      first | go_end0 | refine bodyPost_ret (results_none rfl _ _ _) rfl ?_
      exact ⟨⟨_, rfl⟩, .inl (by rw [← HKN.out]; exact HR.out.2.2.1)⟩
end Go.Proofs.YtamkfjbdcjkchaaDoor
