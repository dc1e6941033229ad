/- What the document fixes, of messages. -/
import Derived.Test.YtamkfjbdcjkchaaSegSq
import Derived.Test.YtamkfjbdcjkchaaSegWr
import Derived.Test.YtamkfjbdcjkchaaTokW2
namespace Go.Proofs.Ytamkfjbdcjkchaa
open Go.RowKit Go.Proofs.HK
set_option linter.unusedVariables false
set_option linter.unusedSimpArgs false
attribute [local go_sem] max2_int min2_int max_two min_two

def fixM : MsgS := ⟨4, 1, 0, 0, 0, 0, 0, 2, 0, 0, [], []⟩
def fixO : List UInt8 := [4, 0, 0, 0, 1, 0, 0, 0, 2, 0]
theorem fixM_may : mayB fixM = true := by decide
theorem fixO_eq : segO fixM = fixO := by decide
theorem zeroM_may : mayB zeroM = false := by decide
theorem fix_facts : swrE fixM = 0 ∧ swrB fixM = sealB fixO ∧ srdE (sealB fixO) = 0 ∧ srdM (sealB fixO) = fixM ∧ swrE zeroM = 1 ∧ swrB zeroM = [] := by
  have h1 : swrE fixM = 0 := by rw [swrE_eq _ (by decide) (by decide), fixM_may]; rfl
  obtain ⟨h2, h3⟩ := may_back fixM (by decide) (by decide) fixM_may
  obtain ⟨h4, h5⟩ := srd_seal (o := segO fixM) (segO_len _)
  rw [h2] at h4 h5
  rw [h3] at h5
  rw [fixO_eq] at h4 h5
  have h6 : swrE zeroM = 1 := by rw [swrE_eq _ (by decide) (by decide), zeroM_may]; rfl
  refine ⟨h1, ?_, h4, h5, h6, ?_⟩
  · unfold swrB; rw [h1, if_pos rfl, fixO_eq]
  · unfold swrB; rw [h6, if_neg (by decide)]
set_option maxRecDepth 100000 in
set_option maxHeartbeats 3200000 in
theorem fixed22_calls (w : World) : Calls Try.prog 8 #[] w fun e w' => e = .returned (.bool true) ∧ Fr No w w' := by
  have HF := hid fix_facts
  have hl : (sealB fixO).length = 14 := by rw [sealB_length]; rfl
  have HL := hid hl
  have wc1 : ∀ W, Calls Try.prog 9 #[.agg #[.int .i64 4, .int .u32 1, .int .i64 0, .int .u32 0, .int .i64 0, .int .i64 0, .int .i64 0, .int .i64 2, .int .i64 0, .int .i64 0, .slice none 0 0, .slice none 0 0]] W fun e w' => ∃ v, e = .returned (.tuple #[v, .int .i64 0]) ∧ New B W w' v (sealB fixO) := fun W => by
    have h := swrite_calls 4 1 0 0 0 0 0 2 0 0 [] [] none none 0 0 0 0 W (by omega) (by omega) rfl rfl Cells.nil Rd.nil (by omega) (by omega)
    rw [show (⟨4, 1, 0, 0, 0, 0, 0, 2, 0, 0, [], []⟩ : MsgS) = fixM from rfl, HF.out.1, HF.out.2.1] at h
    exact h
  have wc2 : ∀ W, Calls Try.prog 9 #[.agg #[.int .i64 0, .int .u32 0, .int .i64 0, .int .u32 0, .int .i64 0, .int .i64 0, .int .i64 0, .int .i64 0, .int .i64 0, .int .i64 0, .slice none 0 0, .slice none 0 0]] W fun e w' => ∃ v, e = .returned (.tuple #[v, .int .i64 1]) ∧ New B W w' v [] := fun W => by
    have h := swrite_calls 0 0 0 0 0 0 0 0 0 0 [] [] none none 0 0 0 0 W (by omega) (by omega) rfl rfl Cells.nil Rd.nil (by omega) (by omega)
    rw [show (⟨0, 0, 0, 0, 0, 0, 0, 0, 0, 0, [], []⟩ : MsgS) = zeroM from rfl, HF.out.2.2.2.2.1, HF.out.2.2.2.2.2] at h
    exact h
  have rc : ∀ W A n c, (sealB fixO).length = n → Rd B W A (sealB fixO) → n ≤ c → n ≤ 100 → Calls Try.prog 13 #[.slice A n c] W fun e w' => ∃ rA rn rc dA dn dc, e = .returned (.tuple #[.agg #[.int .i64 4, .int .u32 1, .int .i64 0, .int .u32 0, .int .i64 0, .int .i64 0, .int .i64 0, .int .i64 2, .int .i64 0, .int .i64 0, .slice rA rn rc, .slice dA dn dc], .int .i64 0]) ∧ Fr No W w' := fun W A n c h1 h2 h3 h4 => by
    refine (sread_calls A (sealB fixO) n c W h1 h2 h3 (by omega)).mono ?_
    rw [HF.out.2.2.1, HF.out.2.2.2.1]
    rintro e w' ⟨rA, rn, rc, dA, dn, dc, e1, _, e2⟩
    exact ⟨rA, rn, rc, dA, dn, dc, e1, e2⟩
  have W1 := hid wc1
  have W2 := hid wc2
  have RC := hid rc
  clear wc1 wc2 rc hl
  go_enter Try.func8, Try.ntmps8
  go_wp2_with fail
  refine (W1.out _).mono ?_
  rintro e w1 ⟨v1, rfl, hn1⟩
  obtain ⟨A1, n1, c1, rfl, N1⟩ := hn1.use
  clear hn1
  obtain rfl : n1 = 14 := by rw [← N1.out.1, HL.out]
  go_wp2_with fail
  refine (RC.out w1 A1 14 c1 N1.out.1 N1.out.2.1 N1.out.2.2.1 (by omega)).mono ?_
  rintro e w2 ⟨rA, rn, rc, dA, dn, dc, rfl, hf2⟩
  have H2 := hid hf2
  clear hf2
  go_wp2_with fail
  refine (W2.out _).mono ?_
  obtain ⟨h, hh⟩ : ∃ h, h = w2.heap.size := ⟨_, rfl⟩
  rw [← hh]
  rintro e w3 ⟨v3, rfl, hn3⟩
  have hb3 : w3.heap[h]? = some (.cells #[.int .i64 4, .int .u32 1, .int .i64 0, .int .u32 0, .int .i64 0, .int .i64 0, .int .i64 0, .int .i64 2, .int .i64 0, .int .i64 0, .slice rA rn rc, .slice dA dn dc] 26 (0, 0)) := (hn3.2.block h (by rw [hh]; simp) (fun h => h)).trans (by rw [hh]; exact heap_new w2 _)
  have hf23 : Fr No w2 w3 := ((Fr.refl No w2).alloc _).then hn3.2
  obtain ⟨A3, n3, c3, rfl, N3⟩ := hn3.use
  have hlt3 : h < w3.heap.size := (Array.getElem?_eq_some_iff.1 hb3).1
  have H3 := hid (And.intro hb3 hf23)
  clear hn3 hf23 hb3 hh
  go_wp2_with fail
  refine (sealed_calls _ fixO 10 10 _ rfl (rd_new B w3 fixO _ _ rfl) (by omega)).mono ?_
  rintro e w4 ⟨v4, rfl, hn4⟩
  obtain ⟨A4, n4, c4, rfl, N4⟩ := hn4.use
  clear hn4
  have hf34 : Fr No w3 w4 := ((Fr.refl No w3).alloc _).then N4.out.2.2.2.1
  have H4 := hid hf34
  clear hf34
  go_wp2_with fail
  refine (same_calls A1 A4 (sealB fixO) (sealB fixO) 14 n4 c1 c4 N1.out.1 N4.out.1 _ (((N1.out.2.1.fr0 H2.out).fr0 H3.out.2).fr0 H4.out) N4.out.2.1).mono ?_
  rintro e w5 ⟨rfl, hw5⟩
  rw [hw5, decide_eq_true rfl]
  clear hw5 w5
  have m7 := (blk12 ((H4.out.block h hlt3 (fun h => h)).trans H3.out.1)).2.2.2.2.2.2.2.1
  go_wp2_with fail
  go_ret
  exact ⟨rfl, ((N1.out.2.2.2.1.then H2.out).then H3.out.2).then H4.out⟩
end Go.Proofs.Ytamkfjbdcjkchaa
