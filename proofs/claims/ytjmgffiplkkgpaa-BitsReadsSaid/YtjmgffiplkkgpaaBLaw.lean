/- The walks of the laws of layer 1, first part: fixed, nil, cuts. -/
import Derived.Test.YtjmgffiplkkgpaaBits2
import Derived.Test.YtjmgffiplkkgpaaBitsW
import Derived.Test.YtjmgffiplkkgpaaRef2
import Derived.Deep.Draws
import Derived.Test.YtjmgffiplkkgpaaOpen
namespace Go.Proofs.Ytjmgffiplkkgpaa
open Go.RowKit Go.Proofs.HK
set_option linter.unusedVariables false
set_option linter.unusedSimpArgs false
attribute [local go_sem] max2_int min2_int max_two min_two

theorem RF.none {g k : Nat} (e : RF g none k) : k = g := by
  rcases e with e | e
  · exact e
  · cases e
theorem RF.ge {g k m : Nat} {ob : Option Nat} (e : RF g ob k) (hg : m ≤ g) (ho : ∀ k, ob = some k → m ≤ k) : m ≤ k := by
  rcases e with e | e
  · omega
  · exact ho k e.symm
theorem ob_ge {ob ob1 : Option Nat} {m m' : Nat} (h : ob1 = ob ∨ ∃ k, ob1 = some k ∧ m' ≤ k) (ho : ∀ k, ob = some k → m ≤ k) (hm : m ≤ m') : ∀ k, ob1 = some k → m ≤ k := by
  intro k hk
  rcases h with e | ⟨k', e, h⟩
  · exact ho k (by rw [← e, hk])
  · rw [e] at hk; injection hk with hk; omega
theorem le_inj : ∀ (a b : List UInt8), a.length = b.length → le a = le b → a = b
  | [], [], _, _ => rfl
  | [], _ :: _, h, _ => by simp at h
  | _ :: _, [], h, _ => by simp at h
  | x :: a, y :: b, h, e => by
    have hx := x.toNat_lt
    have hy := y.toNat_lt
    simp only [le] at e
    have h1 : x.toNat = y.toNat := by omega
    have h2 : le a = le b := by omega
    rw [le_inj a b (by simpa using h) h2, UInt8.toNat_inj.1 h1]

set_option maxRecDepth 100000 in
theorem fixed1_calls (w : World) : Calls Try.prog 19 #[] w fun e w' => e = .returned (.bool true) ∧ Fr No w w' := by
  have e3 : lookS 32 13 0 = 0 := by decide
  have hinj : ∀ bs : List UInt8, bs.length = 1 → le bs = 13 → decide (bs = [13]) = true := fun bs h1 h2 => by
    have := le_inj bs [13] (by simpa using h1) (by rw [h2]; decide)
    simp [this]
  go_enter Try.func19, Try.ntmps19
  go_wp2_with fail
  refine (bnew_calls w).mono ?_
  rintro e w1 ⟨g, rfl, hg, hr, hf⟩
  have HF := hid (And.intro hr hf)
  clear hr hf
  go_wp2_with fail
  refine (feed_calls _ _ _ _ _ (HF.out.1.fr (S := No) ((Fr.refl _ _).alloc _) (fun h => h) (fun _ _ h => h)) _ [6, 1] _ _ rfl (rd_new B _ [6, 1] _ _ rfl) (by decide)).mono ?_
  rw [show 0 + 2 ^ 0 * le [6, 1] = 262 by decide, show 0 + 8 * [(6 : UInt8), 1].length = 16 by decide]
  rintro e w2 ⟨rfl, ob, hr, hob, hf⟩
  have hs1 := HF.out.2.size
  have hgl := HF.out.1.lt
  have hf2 : Fr No w w2 := (HF.out.2.alloc _).trans hf (fun k hk e => by have := RF.none e; omega)
  have hob2 : ∀ k, ob = some k → w1.heap.size ≤ k := ob_ge hob (fun _ h => (by cases h)) (by simp)
  have HR := hid (And.intro hr (And.intro hf2 hob2))
  clear hr hf hob HF hf2 hob2
  go_wp2_with fail
  refine (take_calls _ _ _ _ _ HR.out.1 3 (by decide) (by decide)).mono ?_
  rw [show 262 % 2 ^ 3 = 6 by decide, show 262 / 2 ^ 3 = 32 by decide, show 16 - 3 = 13 by decide]
  rintro e w3 ⟨rfl, hr, hf⟩
  have HR3 := hid (And.intro hr (HR.out.2.1.trans hf (fun k hk (e : k = g) => by omega)))
  clear hr hf
  go_wp2_with fail
  refine (nw_calls _).mono ?_
  rintro e w4 ⟨g2, rfl, hg2, hw, hf⟩
  have hs34 := hf.size
  have hs3 := HR3.out.1.lt
  have ho3 := HR3.out.1.olt
  have HR4 := hid (And.intro (HR3.out.1.fr hf (fun h => h) (fun _ _ h => h)) (And.intro (HR3.out.2.then hf) hw))
  clear hw HR3 hf
  go_wp2_with fail
  refine (put_calls _ _ _ _ _ HR4.out.2.2 5 3 (by omega) (by decide)).mono ?_
  rw [show 0 + 2 ^ 0 * ((5 : Int) % 2 ^ low32 3).toNat = 5 by decide, show 0 + low32 3 = 3 by decide]
  rintro e w5 ⟨rfl, ob5, hw, hob5, hf⟩
  have hs45 := hf.size
  have h3s := HR4.out.2.1.size
  have HR5 := hid (And.intro (HR4.out.1.fr hf (fun e => by have := RF.none e; omega) (fun k hk e => by have := ho3 k hk; have := RF.none e; omega)) (And.intro (HR4.out.2.1.trans hf (fun k hk e => by have := RF.none e; omega)) hw))
  clear hw hf
  go_wp2_with fail
  have hs5 := HR5.out.1.lt
  have ho5 := HR5.out.1.olt
  have h4s := HR4.out.1.lt
  have ho4 := HR4.out.1.olt
  have hs4 := HR4.out.2.2.lt
  have hw5 : ∀ k, ob5 = some k → w3.heap.size ≤ k := ob_ge hob5 (fun _ h => (by cases h)) (by omega)
  refine (put_calls _ _ _ _ _ HR5.out.2.2 1 1 (by omega) (by decide)).mono ?_
  rw [show 5 + 2 ^ 3 * ((1 : Int) % 2 ^ low32 1).toNat = 13 by decide, show 3 + low32 1 = 4 by decide]
  rintro e w6 ⟨rfl, ob6, hw, hob6, hf⟩
  have hs3w : w.heap.size ≤ w3.heap.size := by omega
  have HR6 := hid (And.intro (HR5.out.1.fr hf (fun e => by have := RF.ge e hg2 hw5; omega) (fun k hk e => by have := ho3 k hk; have := RF.ge e hg2 hw5; omega)) (And.intro (HR5.out.2.1.trans hf (fun k hk e => by have := RF.ge e hg2 hw5; omega)) hw))
  have hg2g : g < g2 := by omega
  have hw6 : ∀ k, ob6 = some k → w3.heap.size ≤ k := ob_ge hob6 hw5 (by omega)
  clear hw hf HR5 HR4 HR hob5 hob6
  go_wp2_with (first
    | fail
    | (go_at_call 51; refine (look_calls _ _ _ _ _ HR6.out.1 0).mono ?_; rw [e3]; rintro e w' ⟨rfl, k1, rfl⟩)
    | (go_at_call 47; refine (ralign_calls _ _ _ _ _ (HR6.out.1.fr (S := No) ((Fr.refl _ _).drewN _) (fun h => h) (fun _ _ h => h))).mono ?_; rw [show 13 % 8 = 5 by decide, show 13 - 5 = 8 by decide]; rintro e w7 ⟨rfl, hr7, hf7⟩)
    | (go_at_call 23; refine (have_calls _ _ _ _ _ hr7).mono ?_; rintro e w' ⟨rfl, k2, rfl⟩)
    | (go_at_call 44; refine (wlen_calls _ _ _ _ _ (HR6.out.2.2.fr (((Fr.refl (One g) _).drewN k1).then (hf7.drewN k2)) (fun (e : g2 = g) => by omega) (fun k hk (e : k = g) => by have := hw6 k hk; omega))).mono ?_; rintro e w' ⟨rfl, rfl⟩)
    | (go_at_call 45; refine (out_calls _ _ _ _ _ (HR6.out.2.2.fr (((Fr.refl (One g) _).drewN k1).then (hf7.drewN k2)) (fun (e : g2 = g) => by omega) (fun k hk (e : k = g) => by have := hw6 k hk; omega))).mono ?_; rintro e w8 ⟨v, bs, rfl, hnew, hl8, hv8⟩; obtain ⟨A8, n8, c8, rfl, N8⟩ := hnew.use; clear hnew; have hin := hinj bs (by rw [hl8]) hv8; clear hl8 hv8 hinj)
    | (go_at_call 29; refine (same_calls _ _ bs [13] _ _ _ _ N8.out.1 rfl _ (N8.out.2.1.alloc _) (rd_new B _ [13] _ _ rfl)).mono ?_; rw [hin]; rintro e w9 ⟨rfl, rfl⟩))
  go_ret
  refine ⟨rfl, ?_⟩
  have h1 : Fr No w w7 := (HR6.out.2.1.drewN k1).trans hf7 (fun k hk (e : k = g) => by omega)
  exact (((h1.drewN k2).then N8.out.2.2.2.1).alloc _)

theorem bitsNil_walk (A : Option Addr) (bs : List UInt8) (k c : Nat) (n v : Int) (w : World) (s0 : SlIn B 1 w A bs k c) (b1 : -9223372036854775808 ≤ n ∧ n ≤ 9223372036854775807) (b2 : -9223372036854775808 ≤ v ∧ v ≤ 9223372036854775807) : Calls Try.prog 13 #[.slice A k c, .int .i64 n, .int .i64 v] w fun e w' => e = .returned (.bool true) ∧ Fr No w w' := by
  clear s0
  go_enter Try.func13, Try.ntmps13
  go_wp2_with (first
    | fail
    | (go_at_call 19; refine (fixed1_calls _).mono ?_; rintro e w1 ⟨rfl, hf1⟩; have HF := hid hf1; clear hf1)
    | (go_at_call 21; refine (feed_nil _ _ _ _).mono ?_; rintro e w2 ⟨rfl, rfl⟩)
    | (go_at_call 42; refine (put_nil _ _ _).mono ?_; rintro e w2 ⟨rfl, rfl⟩)
    | (go_at_call 41; refine (walign_nil _).mono ?_; rintro e w2 ⟨rfl, rfl⟩)
    | (go_at_call 22; refine (take_nil _ _).mono ?_; rintro e w2 ⟨rfl, rfl⟩)
    | (go_at_call 23; refine (have_nil _).mono ?_; rintro e w2 ⟨rfl, k1, rfl⟩)
    | (go_at_call 51; refine (look_nil _ _).mono ?_; rintro e w2 ⟨rfl, k2, rfl⟩)
    | (go_at_call 47; refine (ralign_nil _).mono ?_; rintro e w2 ⟨rfl, rfl⟩)
    | (go_at_call 54; refine (rbytes_nil _ _).mono ?_; rintro e w2 ⟨rfl, rfl⟩)
    | (go_at_call 44; refine (wlen_nil _).mono ?_; rintro e w2 ⟨rfl, rfl⟩)
    | (go_at_call 45; refine (out_nil _).mono ?_; rintro e w2 ⟨rfl, rfl⟩))
  go_ret
  exact ⟨rfl, HF.out.drewN _⟩
end Go.Proofs.Ytjmgffiplkkgpaa
