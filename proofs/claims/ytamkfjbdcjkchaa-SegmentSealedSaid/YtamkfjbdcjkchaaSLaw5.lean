/- SegmentSealed's walk. -/
import Derived.Test.YtamkfjbdcjkchaaSLaw4
namespace Go.Proofs.Ytamkfjbdcjkchaa
open Go.RowKit Go.WideShapes Go.Proofs.HK
set_option linter.unusedVariables false
set_option linter.unusedSimpArgs false
attribute [local go_sem] max2_int min2_int max_two min_two
theorem sealed_facts (xs : List UInt8) (h : srdE (sealB xs) = 0) : swrE (srdM (sealB xs)) = 0 ∧ swrB (srdM (sealB xs)) = sealB xs ∧ (srdM (sealB xs)).U < 4294967296 ∧ (srdM (sealB xs)).S < 4294967296 := by
  by_cases h5 : 5 ≤ xs.length
  · obtain ⟨e1, e2⟩ := srd_seal h5
    by_cases hp : prB xs = true
    · obtain ⟨q1, q2, q3, q4⟩ := read_back h5 hp
      rw [if_pos hp] at e2
      rw [e2]
      have hw : swrE (mO xs) = 0 := by rw [swrE_eq _ q3 q4, if_pos q2]
      refine ⟨hw, ?_, q3, q4⟩
      unfold swrB
      rw [hw, if_pos rfl, q1]
    · rw [e1, if_neg hp] at h
      cases h
  · exfalso
    unfold srdE at h
    rw [if_pos (by rw [sealB_length]; omega)] at h
    cases h
set_option maxRecDepth 100000 in
set_option maxHeartbeats 3200000 in
theorem segmentSealed_walk (A : Option Addr) (xs : List UInt8) (n c : Nat) (w : World) (s0 : SlIn B 1 w A xs n c) :
    Calls Try.prog 5 #[.slice A n c] w fun e w' => e = .returned (.bool true) ∧ Fr No w w' := by
  have HN := hid (And.intro s0.len (And.intro s0.rd s0.cap))
  clear s0
  by_cases hbig : (3000 : Int) < (n : Int)
  · go_enter Try.func5, Try.ntmps5
    go_wp2_with fail
    refine (fixed22_calls _).mono ?_
    rintro e w3 ⟨rfl, hf3⟩
    go_wp2_with fail
    go_ret
    exact ⟨rfl, hf3⟩
  · have hnl : n ≤ 3000 := by omega
    obtain ⟨bs, hbs⟩ : ∃ b, b = sealB xs := ⟨_, rfl⟩
    have hlb : bs.length = n + 4 := by rw [hbs, sealB_length, HN.out.1]
    obtain ⟨E, hE⟩ : ∃ E, E = srdE bs := ⟨_, rfl⟩
    obtain ⟨M, hM⟩ : ∃ M, M = srdM bs := ⟨_, rfl⟩
    have HE := hid (And.intro hE hM)
    have HBS := hid (And.intro hbs hlb)
    have HFA := hid (show E = 0 → swrE M = 0 ∧ swrB M = bs ∧ M.U < 4294967296 ∧ M.S < 4294967296 from fun h => by
      rw [hM, hbs]
      exact sealed_facts xs (by rw [← hbs, ← hE]; exact h))
    have HLM := hid (show M.R.length ≤ 140737488355328 ∧ M.D.length ≤ 140737488355328 from by rw [hM]; exact srdM_len bs (by rw [hlb]; omega))
    have hself : (E != E) = false := by simp
    clear hE hM hbs hlb
    go_enter Try.func5, Try.ntmps5
    go_wp2_with fail
    refine (fixed22_calls _).mono ?_
    rintro e w3 ⟨rfl, hf3⟩
    have H3 := hid hf3
    clear hf3
    go_wp2_with fail
    refine (sealed_calls A xs n c _ HN.out.1 (HN.out.2.1.fr0 H3.out) (by omega)).mono ?_
    rw [← HBS.out.1]
    rintro e w4 ⟨v4, rfl, hnew4⟩
    obtain ⟨A4, n4, c4, rfl, N4⟩ := hnew4.use
    clear hnew4
    obtain rfl : n4 = n + 4 := by rw [← N4.out.1, HBS.out.2]
    go_wp2_with fail
    refine (sread_calls A4 bs (n + 4) c4 w4 N4.out.1 N4.out.2.1 N4.out.2.2.1 (by omega)).mono ?_
    rw [← HE.out.1, ← HE.out.2]
    rintro e w5 ⟨rA5, rn5, rc5, dA5, dn5, dc5, rfl, hrm5, hfr5⟩
    rw [show mC M (.slice rA5 rn5 rc5) (.slice dA5 dn5 dc5) = msgC M rA5 rn5 rc5 dA5 dn5 dc5 from rfl]
    obtain ⟨g5, X5, hX5, hg5, hx5, hb5⟩ := box_m w5 M rA5 rn5 rc5 dA5 dn5 dc5
    have HX5 := hid (And.intro hX5 hg5)
    have HB5 := hid (And.intro hx5 hb5)
    have HRM5 := hid (And.intro hrm5 hfr5)
    have HF5 := hid (hfr5.then hx5)
    clear hX5 hg5 hx5 hb5 hrm5 hfr5
    unfold msgC
    go_upto_region 7 with fail
    rw [show (#[.int .i64 M.K, .int .u32 (M.U : Int), .int .i64 M.F, .int .u32 (M.S : Int), .int .i64 M.Z, .int .i64 M.P, .int .i64 M.Y, .int .i64 M.X, .int .i64 M.Q, .int .i64 M.C, .slice rA5 rn5 rc5, .slice dA5 dn5 dc5] : Array Value) = msgC M rA5 rn5 rc5 dA5 dn5 dc5 from rfl]
    rw [← HX5.out.1, ← HX5.out.2]
    go_wp2_with fail
    refine (refRead_calls A4 bs (n + 4) c4 X5 N4.out.1 (N4.out.2.1.fr0 HF5.out) N4.out.2.2.1 (by omega)).mono ?_
    rw [← HE.out.1, ← HE.out.2]
    rintro e w6 ⟨rA6, rn6, rc6, dA6, dn6, dc6, rfl, hrm6, hfr6⟩
    rw [show mC M (.slice rA6 rn6 rc6) (.slice dA6 dn6 dc6) = msgC M rA6 rn6 rc6 dA6 dn6 dc6 from rfl]
    obtain ⟨g6, X6, hX6, hg6, hx6, hb6⟩ := box_m w6 M rA6 rn6 rc6 dA6 dn6 dc6
    have HX6 := hid (And.intro hX6 hg6)
    have HB6 := hid (And.intro hx6 hb6)
    have HRM6 := hid (And.intro hrm6 hfr6)
    have HF6 := hid (hfr6.then hx6)
    clear hX6 hg6 hx6 hb6 hrm6 hfr6
    unfold msgC
    go_upto_region 8 with fail
    rw [show (#[.int .i64 M.K, .int .u32 (M.U : Int), .int .i64 M.F, .int .u32 (M.S : Int), .int .i64 M.Z, .int .i64 M.P, .int .i64 M.Y, .int .i64 M.X, .int .i64 M.Q, .int .i64 M.C, .slice rA6 rn6 rc6, .slice dA6 dn6 dc6] : Array Value) = msgC M rA6 rn6 rc6 dA6 dn6 dc6 from rfl]
    rw [← HX6.out.1, ← HX6.out.2]
    have H46 := hid (HF5.out.then HF6.out)
    obtain ⟨m0, m1, m2, m3, m4, m5, m6, m7, m8, m9, m10, m11⟩ := blk12 (show X6.heap[g5]? = some (.cells #[.int .i64 M.K, .int .u32 (M.U : Int), .int .i64 M.F, .int .u32 (M.S : Int), .int .i64 M.Z, .int .i64 M.P, .int .i64 M.Y, .int .i64 M.X, .int .i64 M.Q, .int .i64 M.C, .slice rA5 rn5 rc5, .slice dA5 dn5 dc5] 26 (0, 0)) from heapk HF6.out HB5.out.2)
    obtain ⟨x0, x1, x2, x3, x4, x5, x6, x7, x8, x9, x10, x11⟩ := blk12 (show X6.heap[g6]? = some (.cells #[.int .i64 M.K, .int .u32 (M.U : Int), .int .i64 M.F, .int .u32 (M.S : Int), .int .i64 M.Z, .int .i64 M.P, .int .i64 M.Y, .int .i64 M.X, .int .i64 M.Q, .int .i64 M.C, .slice rA6 rn6 rc6, .slice dA6 dn6 dc6] 26 (0, 0)) from HB6.out.2)
    go_wp2_with fail
    refine (sameM (HRM5.out.1.fr0 (HB5.out.1.then HF6.out)) (HRM6.out.1.fr0 HB6.out.1) HLM.out.1).mono ?_
    rintro e w7 ⟨rfl, hf7⟩
    have H7 := hid hf7
    clear hf7 m0 m1 m2 m3 m4 m5 m6 m7 m8 m9 m10 m11 x0 x1 x2 x3 x4 x5 x6 x7 x8 x9 x10 x11
    have HW7 := hid (show Fr No w w7 from (((H3.out.then N4.out.2.2.2.1).then H46.out).then H7.out))
    by_cases hE0 : E = 0
    · obtain ⟨f1, f2, f3, f4⟩ := HFA.out hE0
      have hb : (E != 0) = false := by simpa using hE0
      have hr5 := HRM5.out.1.fr0 ((HB5.out.1.then HF6.out).then H7.out)
      have hwc : Calls Try.prog 9 #[.agg (msgC M rA5 rn5 rc5 dA5 dn5 dc5)] w7 fun e w' => ∃ v, e = .returned (.tuple #[v, .int .i64 0]) ∧ New B w7 w' v bs := by
        have h := swrite_calls M.K M.U M.F M.S M.Z M.P M.Y M.X M.Q M.C M.R M.D rA5 dA5 rn5 rc5 dn5 dc5 w7 f3 f4 hr5.rl hr5.dl hr5.rd hr5.dd (by rw [← hr5.rl]; exact HLM.out.1) (by rw [← hr5.dl]; exact HLM.out.2)
        rw [show (⟨M.K, M.U, M.F, M.S, M.Z, M.P, M.Y, M.X, M.Q, M.C, M.R, M.D⟩ : MsgS) = M from rfl, f1, f2] at h
        exact h
      have HWC := hid hwc
      obtain ⟨m0, m1, m2, m3, m4, m5, m6, m7, m8, m9, m10, m11⟩ := blk12 (show w7.heap[g5]? = some (.cells #[.int .i64 M.K, .int .u32 (M.U : Int), .int .i64 M.F, .int .u32 (M.S : Int), .int .i64 M.Z, .int .i64 M.P, .int .i64 M.Y, .int .i64 M.X, .int .i64 M.Q, .int .i64 M.C, .slice rA5 rn5 rc5, .slice dA5 dn5 dc5] 26 (0, 0)) from heapk (HF6.out.then H7.out) HB5.out.2)
      clear hE0 f1 f2 f3 f4 hr5 hwc
      go_wp2_with fail
      refine (HWC.out).mono ?_
      rintro e w8 ⟨v, rfl, hnew⟩
      obtain ⟨A8, n8, c8, rfl, N8⟩ := hnew.use
      clear hnew m0 m1 m2 m3 m4 m5 m6 m7 m8 m9 m10 m11
      obtain rfl : n8 = n + 4 := by rw [← N8.out.1, HBS.out.2]
      go_wp2_with fail
      refine (same_calls A8 A4 bs bs (n + 4) (n + 4) c8 c4 N8.out.1 N4.out.1 _ N8.out.2.1 (N4.out.2.1.fr0 ((H46.out.then H7.out).then N8.out.2.2.2.1))).mono ?_
      rw [decide_eq_true (show bs = bs from rfl)]
      rintro e w9 ⟨rfl, hw9⟩
      rw [hw9]
      clear hw9 w9
      go_wp2_with fail
      go_ret
      exact ⟨rfl, HW7.out.then N8.out.2.2.2.1⟩
    · have hb : (E != 0) = true := by simpa using hE0
      clear hE0
      go_wp2_with fail
      go_ret
      exact ⟨rfl, HW7.out⟩
end Go.Proofs.Ytamkfjbdcjkchaa
