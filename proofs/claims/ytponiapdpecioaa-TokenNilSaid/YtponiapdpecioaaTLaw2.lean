/- The walks of TokenNil, TokenCrash and TokenWrites. -/
import Derived.Test.YtponiapdpecioaaTLaw
import Derived.Test.YtponiapdpecioaaTokW3
import Derived.Test.YtponiapdpecioaaOpen
namespace Go.Proofs.Ytponiapdpecioaa
open Go.RowKit Go.Proofs.HK
set_option linter.unusedVariables false
set_option linter.unusedSimpArgs false

theorem tokenNil_walk (A : Option Addr) (xs : List UInt8) (n c : Nat) (y : Bool) (w : World) (s0 : SlIn B 1 w A xs n c) :
    Calls Try.prog 8 #[.slice A n c, .bool y] w fun e w' => e = .returned (.bool true) ∧ Fr No w w' := by
  clear s0
  go_enter Try.func8, Try.ntmps8
  go_wp2_with fail
  refine (fixed25_calls _).mono ?_
  rintro e w1 ⟨rfl, hf1⟩
  go_wp2_with fail
  refine (sput_nil _ _ _ _).mono ?_
  rintro e w2 ⟨rfl, rfl⟩
  go_wp2_with fail
  refine (ssettle_nil _).mono ?_
  rintro e w3 ⟨rfl, rfl⟩
  go_wp2_with fail
  refine (scrash_nil _ _).mono ?_
  rintro e w4 ⟨rfl, rfl⟩
  go_wp2_with fail
  refine (sget_nil _).mono ?_
  rintro e w5 ⟨rfl, rfl⟩
  go_wp2_with fail
  refine (sbusy_nil _).mono ?_
  rintro e w6 ⟨rfl, rfl⟩
  go_wp2_with fail
  go_ret
  exact ⟨rfl, hf1⟩
theorem reach_le {n : Nat} (h : n * 1 ≤ 140737488351232) : n ≤ 140737488355328 := by omega
set_option maxRecDepth 100000 in
set_option maxHeartbeats 1600000 in
theorem tokenCrash_walk (A1 : Option Addr) (xs : List UInt8) (n1 c1 : Nat) (A2 : Option Addr) (ys : List UInt8) (n2 c2 : Nat) (A3 : Option Addr) (zs : List UInt8) (n3 c3 : Nat) (keep : Bool) (w : World) (s1 : SlIn B 1 w A1 xs n1 c1) (s2 : SlIn B 1 w A2 ys n2 c2) (s3 : SlIn B 1 w A3 zs n3 c3) :
    Calls Try.prog 7 #[.slice A1 n1 c1, .slice A2 n2 c2, .slice A3 n3 c3, .bool keep] w fun e w' => e = .returned (.bool true) ∧ Fr No w w' := by
  have HS := hid (And.intro s1 (And.intro s2 s3))
  clear s1 s2 s3
  cases keep with
  | false =>
    go_enter Try.func7, Try.ntmps7
    go_wp2_with fail
    refine (fixed25_calls _).mono ?_
    rintro e w1 ⟨rfl, hf1⟩
    have H1 := hid hf1
    clear hf1
    go_wp2_with fail
    refine (snew_calls _).mono ?_
    rintro e w4 ⟨rfl, hs4, hf4⟩
    obtain ⟨gs, hgs⟩ : ∃ g, g = w1.heap.size := ⟨_, rfl⟩
    rw [← hgs] at hs4 ⊢
    have HGS := hid hgs
    have H4 := hid (And.intro hs4 hf4)
    clear hs4 hf4 hgs
    go_wp2_with fail
    refine (sput_calls gs [] [] xs A1 n1 c1 _ H4.out.1 HS.out.1.len (HS.out.1.rd.fr0 (H1.out.then H4.out.2)) (reach_le HS.out.1.reach)).mono ?_
    rintro e w5 ⟨rfl, ⟨T5, hs5, hT5⟩, hf5⟩
    have H5 := hid (And.intro hs5 hf5)
    clear hs5 hf5 hT5
    go_wp2_with fail
    refine (ssettle_calls gs xs [] true _ H5.out.1).mono ?_
    rintro e w6 ⟨rfl, hs6, hf6⟩
    have hF6 : Fr (HK.One gs) w1 w6 := (H4.out.2.any.then H5.out.2).then hf6
    have H6 := hid (And.intro (show St T5 w6 gs [] false xs from hs6) (H1.out.trans hF6 (fun q hq e => by have e : q = gs := e; have := HGS.out; have := H1.out.size; omega)))
    clear hs6 hf6 hF6
    go_wp2_with fail
    refine (sput_calls gs [] xs ys A2 n2 c2 _ H6.out.1 HS.out.2.1.len (HS.out.2.1.rd.fr0 H6.out.2) (reach_le HS.out.2.1.reach)).mono ?_
    rintro e w7 ⟨rfl, ⟨T7, hs7, hT7⟩, hf7⟩
    have H7 := hid (And.intro hs7 (H6.out.2.trans hf7 (fun q hq e => by have e : q = gs := e; have := HGS.out; have := H1.out.size; omega)))
    clear hs7 hf7 hT7
    go_wp2_with fail
    refine (sput_busy gs ys xs A3 n3 c3 _ H7.out.1).mono ?_
    rintro e w8 ⟨rfl, hw8⟩
    rw [hw8]
    clear hw8 w8
    go_wp2_with fail
    refine (sget_calls gs ys xs true _ H7.out.1).mono ?_
    rintro e w9 ⟨v9, rfl, hnew9⟩
    obtain ⟨A9, n9, c9, rfl, N9⟩ := hnew9.use
    clear hnew9
    have H9 := hid (And.intro (H7.out.1.fr N9.out.2.2.2.1 (fun _ _ h => h) (fun h => h)) (H7.out.2.then N9.out.2.2.2.1))
    go_wp2_with fail
    refine (scrash_calls gs ys xs true false _ H9.out.1).mono ?_
    rintro e w10 ⟨rfl, hs10, hf10⟩
    have hne : ∀ ad, A9 = some ad → ¬ HK.One gs ad.block := fun ad e h => by
      have h : ad.block = gs := h
      have h1 := farOf (sz := 1) N9.out.2.2.2.2 ad e
      have h2 := H7.out.1.glt
      omega
    have H10 := hid (And.intro (show St T7 w10 gs [] false xs from hs10) (And.intro (H9.out.2.trans hf10 (fun q hq e => by have e : q = gs := e; have := HGS.out; have := H1.out.size; omega)) (N9.out.2.1.fr hf10 hne)))
    clear hs10 hf10 hne
    go_wp2_with fail
    refine (same_calls A9 A1 xs xs n9 n1 c9 c1 N9.out.1 HS.out.1.len _ H10.out.2.2 (HS.out.1.rd.fr0 H10.out.2.1)).mono ?_
    rw [decide_eq_true (show xs = xs from rfl)]
    rintro e w11 ⟨rfl, hw11⟩
    rw [hw11]
    clear hw11 w11
    go_wp2_with fail
    refine (sget_calls gs [] xs false _ H10.out.1).mono ?_
    rintro e w12 ⟨v12, rfl, hnew12⟩
    obtain ⟨A12, n12, c12, rfl, N12⟩ := hnew12.use
    clear hnew12
    go_wp2_with fail
    refine (same_calls A12 A1 xs xs n12 n1 c12 _ N12.out.1 HS.out.1.len _ N12.out.2.1 (HS.out.1.rd.fr0 (H10.out.2.1.then N12.out.2.2.2.1))).mono ?_
    rw [decide_eq_true (show xs = xs from rfl)]
    rintro e w13 ⟨rfl, hw13⟩
    rw [hw13]
    clear hw13 w13
    go_wp2_with fail
    refine (sbusy_calls gs [] xs false _ (H10.out.1.fr N12.out.2.2.2.1 (fun _ _ h => h) (fun h => h))).mono ?_
    rintro e w14 ⟨rfl, hw14⟩
    rw [hw14]
    clear hw14 w14
    go_wp2_with fail
    go_ret
    exact ⟨rfl, H10.out.2.1.then N12.out.2.2.2.1⟩
  | true =>
    go_enter Try.func7, Try.ntmps7
    go_wp2_with fail
    refine (fixed25_calls _).mono ?_
    rintro e w1 ⟨rfl, hf1⟩
    have H1 := hid hf1
    clear hf1
    go_wp2_with fail
    refine (snew_calls _).mono ?_
    rintro e w4 ⟨rfl, hs4, hf4⟩
    obtain ⟨gs, hgs⟩ : ∃ g, g = w1.heap.size := ⟨_, rfl⟩
    rw [← hgs] at hs4 ⊢
    have HGS := hid hgs
    have H4 := hid (And.intro hs4 hf4)
    clear hs4 hf4 hgs
    go_wp2_with fail
    refine (sput_calls gs [] [] xs A1 n1 c1 _ H4.out.1 HS.out.1.len (HS.out.1.rd.fr0 (H1.out.then H4.out.2)) (reach_le HS.out.1.reach)).mono ?_
    rintro e w5 ⟨rfl, ⟨T5, hs5, hT5⟩, hf5⟩
    have H5 := hid (And.intro hs5 hf5)
    clear hs5 hf5 hT5
    go_wp2_with fail
    refine (ssettle_calls gs xs [] true _ H5.out.1).mono ?_
    rintro e w6 ⟨rfl, hs6, hf6⟩
    have hF6 : Fr (HK.One gs) w1 w6 := (H4.out.2.any.then H5.out.2).then hf6
    have H6 := hid (And.intro (show St T5 w6 gs [] false xs from hs6) (H1.out.trans hF6 (fun q hq e => by have e : q = gs := e; have := HGS.out; have := H1.out.size; omega)))
    clear hs6 hf6 hF6
    go_wp2_with fail
    refine (sput_calls gs [] xs ys A2 n2 c2 _ H6.out.1 HS.out.2.1.len (HS.out.2.1.rd.fr0 H6.out.2) (reach_le HS.out.2.1.reach)).mono ?_
    rintro e w7 ⟨rfl, ⟨T7, hs7, hT7⟩, hf7⟩
    have H7 := hid (And.intro hs7 (H6.out.2.trans hf7 (fun q hq e => by have e : q = gs := e; have := HGS.out; have := H1.out.size; omega)))
    clear hs7 hf7 hT7
    go_wp2_with fail
    refine (sput_busy gs ys xs A3 n3 c3 _ H7.out.1).mono ?_
    rintro e w8 ⟨rfl, hw8⟩
    rw [hw8]
    clear hw8 w8
    go_wp2_with fail
    refine (sget_calls gs ys xs true _ H7.out.1).mono ?_
    rintro e w9 ⟨v9, rfl, hnew9⟩
    obtain ⟨A9, n9, c9, rfl, N9⟩ := hnew9.use
    clear hnew9
    have H9 := hid (And.intro (H7.out.1.fr N9.out.2.2.2.1 (fun _ _ h => h) (fun h => h)) (H7.out.2.then N9.out.2.2.2.1))
    go_wp2_with fail
    refine (scrash_calls gs ys xs true true _ H9.out.1).mono ?_
    rintro e w10 ⟨rfl, hs10, hf10⟩
    have hne : ∀ ad, A9 = some ad → ¬ HK.One gs ad.block := fun ad e h => by
      have h : ad.block = gs := h
      have h1 := farOf (sz := 1) N9.out.2.2.2.2 ad e
      have h2 := H7.out.1.glt
      omega
    have H10 := hid (And.intro (show St T7 w10 gs [] false ys from hs10) (And.intro (H9.out.2.trans hf10 (fun q hq e => by have e : q = gs := e; have := HGS.out; have := H1.out.size; omega)) (N9.out.2.1.fr hf10 hne)))
    clear hs10 hf10 hne
    go_wp2_with fail
    refine (same_calls A9 A1 xs xs n9 n1 c9 c1 N9.out.1 HS.out.1.len _ H10.out.2.2 (HS.out.1.rd.fr0 H10.out.2.1)).mono ?_
    rw [decide_eq_true (show xs = xs from rfl)]
    rintro e w11 ⟨rfl, hw11⟩
    rw [hw11]
    clear hw11 w11
    go_wp2_with fail
    refine (sget_calls gs [] ys false _ H10.out.1).mono ?_
    rintro e w12 ⟨v12, rfl, hnew12⟩
    obtain ⟨A12, n12, c12, rfl, N12⟩ := hnew12.use
    clear hnew12
    go_wp2_with fail
    refine (same_calls A12 A2 ys ys n12 n2 c12 _ N12.out.1 HS.out.2.1.len _ N12.out.2.1 (HS.out.2.1.rd.fr0 (H10.out.2.1.then N12.out.2.2.2.1))).mono ?_
    rw [decide_eq_true (show ys = ys from rfl)]
    rintro e w13 ⟨rfl, hw13⟩
    rw [hw13]
    clear hw13 w13
    go_wp2_with fail
    refine (sbusy_calls gs [] ys false _ (H10.out.1.fr N12.out.2.2.2.1 (fun _ _ h => h) (fun h => h))).mono ?_
    rintro e w14 ⟨rfl, hw14⟩
    rw [hw14]
    clear hw14 w14
    go_wp2_with fail
    go_ret
    exact ⟨rfl, H10.out.2.1.then N12.out.2.2.2.1⟩
end Go.Proofs.Ytponiapdpecioaa
