/- The walk of OctetsBack, for arguments of at most so many bytes. -/
import Derived.Test.YtjmgffiplkkgpaaLaw2
import Derived.Test.YtjmgffiplkkgpaaBBackP
import Derived.Test.YtjmgffiplkkgpaaRef1P
namespace Go.Proofs.Ytjmgffiplkkgpaa
open Go.RowKit Go.Proofs.HK
set_option linter.unusedVariables false
set_option linter.unusedSimpArgs false
attribute [local go_sem] max2_int min2_int max_two min_two

theorem le_putLEi (n : Nat) : ∀ v : Int, ((le (putLE n v) : Nat) : Int) = v % 256 ^ n := by
  induction n with
  | zero => intro v; simp [putLE, le, Int.emod_one]
  | succ n ih =>
    intro v
    have h2 := byteOf_toNat v
    simp only [putLE, le]
    rw [Int.natCast_add, Int.natCast_mul, ih, h2, Int.pow_succ, Int.mul_comm (256 ^ n) 256]
    have hp : (0 : Int) < 256 ^ n := Int.pow_pos (by decide)
    have h3 := Int.emod_nonneg (v / 256) (Int.ne_of_gt hp)
    have h4 := Int.emod_lt_of_pos (v / 256) hp
    have h5 := Int.mul_ediv_add_emod (v / 256) (256 ^ n)
    have h6 := Int.mul_ediv_add_emod v 256
    have h7 : v = (v % 256 + 256 * (v / 256 % 256 ^ n)) + 256 * 256 ^ n * (v / 256 / 256 ^ n) := by
      rw [Int.mul_assoc]
      have : 256 * (v / 256 % 256 ^ n) + 256 * (256 ^ n * (v / 256 / 256 ^ n)) = 256 * (v / 256) := by rw [← Int.mul_add]; congr 1; omega
      omega
    have h8 : v % (256 * 256 ^ n) = ((v % 256 + 256 * (v / 256 % 256 ^ n)) + 256 * 256 ^ n * (v / 256 / 256 ^ n)) % (256 * 256 ^ n) := congrArg (· % (256 * 256 ^ n)) h7
    have h9 : v % (256 * 256 ^ n) = v % 256 + 256 * (v / 256 % 256 ^ n) := by
      rw [h8, Int.add_mul_emod_self_left]
      exact Int.emod_eq_of_lt (by omega) (by omega)
    rw [h9]
    rfl
theorem cut8_n (n : Nat) (h : n ≤ 8) : cut8 (n : Int) = n := by unfold cut8; omega
theorem big_back (ah bh : List UInt8) (n : Nat) (v : Int) (h1 : 1 ≤ n) (h4 : n ≤ 4) : bigS (ah ++ putBE n v ++ bh) ah.length n = v % 2 ^ (8 * n) ∧ fitsS (ah ++ putBE n v ++ bh).length ah.length n = 0 := by
  have hf : fitsS (ah ++ putBE n v ++ bh).length ah.length n = 0 := by
    unfold fitsS
    rw [List.length_append, List.length_append, putBE_length, if_neg (by omega), if_neg (by omega)]
  refine ⟨?_, hf⟩
  unfold bigS
  rw [if_pos hf, Int.toNat_natCast, Int.toNat_natCast, List.append_assoc, List.drop_left, List.take_append_of_le_length (by rw [putBE_length]; omega), List.take_of_length_le (by rw [putBE_length]; omega)]
  unfold putBE
  rw [← le_eq_be, le_putLEi, pow8i, ← show ((256 : Int) ^ n) = ((256 ^ n : Nat) : Int) by simp]
theorem little_back (ah bh : List UInt8) (n : Nat) (v : Int) (h1 : 1 ≤ n) (h4 : n ≤ 4) : littleS (ah ++ putLE n v ++ bh) ah.length n = v % 2 ^ (8 * n) ∧ fitsS (ah ++ putLE n v ++ bh).length ah.length n = 0 := by
  have hf : fitsS (ah ++ putLE n v ++ bh).length ah.length n = 0 := by
    unfold fitsS
    rw [List.length_append, List.length_append, putLE_length, if_neg (by omega), if_neg (by omega)]
  refine ⟨?_, hf⟩
  unfold littleS
  rw [if_pos hf, Int.toNat_natCast, Int.toNat_natCast, List.append_assoc, List.drop_left, List.take_append_of_le_length (by rw [putLE_length]; omega), List.take_of_length_le (by rw [putLE_length]; omega)]
  rw [le_putLEi, pow8i, ← show ((256 : Int) ^ n) = ((256 ^ n : Nat) : Int) by simp]

theorem wrap64_of (z : Int) : IntKind.i64.wrap z = wrap64 z := by rw [IntKind.wrap_i64]; unfold wrap64; omega
theorem ob_ge1 {ob ob1 : Option Nat} {m m' : Nat} (h : ob1 = ob ∨ ∃ k, ob1 = some k ∧ m' ≤ k) (ho : ∀ k, ob = some k → m ≤ k) (hm : m ≤ m') : ∀ k, ob1 = some k → m ≤ k := by
  intro k hk
  rcases h with e | ⟨k', e, h⟩
  · exact ho k (by rw [← e, hk])
  · rw [e] at hk; injection hk with hk; omega
set_option maxRecDepth 100000 in
set_option maxHeartbeats 1600000 in
theorem octetsBack_walk (v sz : Int) (A : Option Addr) (xs : List UInt8) (n1 c1 : Nat) (A' : Option Addr) (ys : List UInt8) (n2 c2 : Nat) (w : World)
    (hv : -9223372036854775808 ≤ v ∧ v ≤ 9223372036854775807) (hz : 0 ≤ sz ∧ sz ≤ 255) (s0 : SlIn B 1 w A xs n1 c1) (b0 : n1 ≤ 1048576) (s1 : SlIn B 1 w A' ys n2 c2) (b1 : n2 ≤ 1048576) :
    Calls Try.prog 9 #[.int .i64 v, .int .u8 sz, .slice A n1 c1, .slice A' n2 c2] w fun e w' => e = .returned (.bool true) ∧ Fr No w w' := by
  have HR := hid (And.intro s0.len (And.intro s0.rd (And.intro s1.len s1.rd)))
  have hc1 := s0.cap
  have hc2 := s1.cap
  clear s0 s1
  obtain ⟨n, hn⟩ : ∃ n : Nat, (n : Int) = 1 + sz % 4 := ⟨(1 + sz % 4).toNat, by omega⟩
  have hn1 : 1 ≤ n ∧ n ≤ 4 := by omega
  have hw : IntKind.i64.wrap (1 + sz % 4) = (n : Int) := by rw [w64 _ (by omega) (by omega)]; omega
  have hn' := hn.symm
  clear hn
  go_enter Try.func9, Try.ntmps9
  go_wp2_with fail
  refine (fixed2_calls _).mono ?_
  rintro e w1 ⟨rfl, hf⟩
  have F1 := hid hf
  clear hf
  go_wp2_with (at_builtin; refine wpList_app slU8 rfl (.tmp 23) (.tmp 24) rfl rfl (Row.new w1 1 0 [] _ rfl (by omega)) rfl (show (xs.map B).length = n1 * 1 by rw [List.length_map, HR.out.1]; omega) (Rd.cells.1 ((HR.out.2.1.fr0 F1.out).alloc _)) (oneB _) (by omega) (by omega) ?_; intro A2 c2 w2 ob2 hv2 hf2 hob2; simp only [Nat.zero_add, List.nil_append, World.size_alloc] at hv2 hob2 ⊢)
  have hob2' : ∀ q, ob2 = some q → w1.heap.size ≤ q := some_le (m := w1.heap.size) (hob2.imp id (fun ⟨k, a, b⟩ => ⟨k, a, by omega⟩)) (Nat.le_refl _)
  have hF2 : Fr No w1 w2 := ((Fr.refl No _).alloc _).fresh hf2 (fun k e => by injection e with e; omega)
  have H2 := hid (And.intro hv2 (And.intro hob2' (And.intro (F1.out.then hF2) hF2.size)))
  have hs1 := F1.out.size
  clear hv2 hob2 hob2' hf2 hF2 F1
  refine (putBig_calls n v _ hv).mono ?_
  rw [cut8_n n (by omega)]
  rintro e w3 ⟨x, rfl, hnew⟩
  obtain ⟨A3, n3, c3, rfl, N3⟩ := hnew.use
  clear hnew
  have hn3 : n = n3 := by rw [← N3.out.1, putBE_length]
  subst hn3
  go_wp2_with (first
    | (at_builtin; refine wpList_app slU8 rfl (.tmp 25) (.tmp 28) rfl rfl (H2.out.1.fr N3.out.2.2.2.1 (fun _ _ h => h)) rfl (by rw [List.length_map, N3.out.1, Nat.mul_one]) (Rd.cells.1 N3.out.2.1) (oneB _) (by omega) (by omega) ?_; intro A4 c4 w4 ob4 hv4 hf4 hob4; rw [← List.map_append] at hv4; have hob4' := ob_ge1 hob4 H2.out.2.1 (Nat.le_trans H2.out.2.2.2 N3.out.2.2.2.1.size); have hF4 : Fr No w w4 := (H2.out.2.2.1.then N3.out.2.2.2.1).fresh hf4 (fun q hq => Nat.le_trans hs1 (H2.out.2.1 q hq)); have H4 := hid (And.intro hv4 (And.intro hF4 hob4')); clear hv4 hob4' hF4 hf4 hob4)
    | (at_builtin; refine wpList_app slU8 rfl (.tmp 29) (.tmp 30) rfl rfl H4.out.1 rfl (by rw [List.length_map, HR.out.2.2.1, Nat.mul_one]) (Rd.cells.1 (HR.out.2.2.2.fr0 H4.out.2.1)) (oneB _) (by omega) (by omega) ?_; intro A5 c5 w5 ob5 hv5 hf5 hob5; rw [← List.map_append] at hv5; have hF5 : Fr No w w5 := H4.out.2.1.fresh hf5 (fun q hq => Nat.le_trans hs1 (H4.out.2.2 q hq)); have H5 := hid (And.intro hv5 hF5); clear hv5 hF5 hf5 hob5)
    | (at_builtin; refine wpList_app slU8 rfl (.tmp 32) (.tmp 33) rfl rfl (Row.new w5 1 0 [] _ rfl (by omega)) rfl (show (xs.map B).length = n1 * 1 by rw [List.length_map, HR.out.1]; omega) (Rd.cells.1 ((HR.out.2.1.fr0 H5.out.2).alloc _)) (oneB _) (by omega) (by omega) ?_; intro A6 c6 w6 ob6 hv6 hf6 hob6; simp only [Nat.zero_add, List.nil_append, World.size_alloc] at hv6 hob6 ⊢))
  have hs5 := H5.out.2.size
  have hob6' : ∀ q, ob6 = some q → w5.heap.size ≤ q := some_le (m := w5.heap.size) (hob6.imp id (fun ⟨k, a, b⟩ => ⟨k, a, by omega⟩)) (Nat.le_refl _)
  have hF6 : Fr No w5 w6 := ((Fr.refl No _).alloc _).fresh hf6 (fun k e => by injection e with e; omega)
  have H6 := hid (And.intro hv6 (And.intro hob6' (And.intro (H5.out.2.then hF6) (And.intro (H5.out.1.fr hF6 (fun _ _ h => h)) hF6.size))))
  clear hv6 hob6 hob6' hf6 hF6 H4 H2 N3
  refine (putLittle_calls n v _ hv).mono ?_
  rw [cut8_n n (by omega)]
  rintro e w7 ⟨x, rfl, hnew⟩
  obtain ⟨A7, n7, c7, rfl, N7⟩ := hnew.use
  clear hnew
  have hn7 : n = n7 := by rw [← N7.out.1, putLE_length]
  subst hn7
  go_wp2_with (first
    | (at_builtin; refine wpList_app slU8 rfl (.tmp 34) (.tmp 37) rfl rfl (H6.out.1.fr N7.out.2.2.2.1 (fun _ _ h => h)) rfl (by rw [List.length_map, N7.out.1, Nat.mul_one]) (Rd.cells.1 N7.out.2.1) (oneB _) (by omega) (by omega) ?_; intro A8 c8 w8 ob8 hv8 hf8 hob8; rw [← List.map_append] at hv8; have hob8' := ob_ge1 hob8 H6.out.2.1 (Nat.le_trans H6.out.2.2.2.2 N7.out.2.2.2.1.size); have hF8 : Fr No w w8 := (H6.out.2.2.1.then N7.out.2.2.2.1).fresh hf8 (fun q hq => Nat.le_trans hs5 (H6.out.2.1 q hq)); have hb8 := (H6.out.2.2.2.1.fr N7.out.2.2.2.1 (fun _ _ h => h)).fr hf8 (fun q hq e => Nat.lt_irrefl q (Nat.lt_of_lt_of_le (H5.out.1.lt hq) (H6.out.2.1 q e.symm))); have H8 := hid (And.intro hv8 (And.intro hF8 (And.intro hob8' hb8))); clear hv8 hob8' hF8 hf8 hob8)
    | (at_builtin; refine wpList_app slU8 rfl (.tmp 38) (.tmp 39) rfl rfl H8.out.1 rfl (by rw [List.length_map, HR.out.2.2.1, Nat.mul_one]) (Rd.cells.1 (HR.out.2.2.2.fr0 H8.out.2.1)) (oneB _) (by omega) (by omega) ?_; intro A9 c9 w9 ob9 hv9 hf9 hob9; rw [← List.map_append] at hv9; have hF9 : Fr No w w9 := H8.out.2.1.fresh hf9 (fun q hq => Nat.le_trans hs5 (H8.out.2.2.1 q hq)); have hb9 := H8.out.2.2.2.fr hf9 (fun q hq e => Nat.lt_irrefl q (Nat.lt_of_lt_of_le (H5.out.1.lt hq) (H8.out.2.2.1 q e.symm))); have H9 := hid (And.intro hv9 (And.intro hF9 hb9)); clear hv9 hF9 hf9 hob9))
  clear hb8 hb9
  have hbb := big_back xs ys n v hn1.1 hn1.2
  have hll := little_back xs ys n v hn1.1 hn1.2
  have hlb : (xs ++ putBE n v ++ ys).length = n1 + n + n2 := by rw [List.length_append, List.length_append, putBE_length, HR.out.1, HR.out.2.2.1]
  have hlll : (xs ++ putLE n v ++ ys).length = n1 + n + n2 := by rw [List.length_append, List.length_append, putLE_length, HR.out.1, HR.out.2.2.1]
  rw [HR.out.1] at hbb hll
  have HB := hid (And.intro hbb hlb)
  have HL := hid (And.intro hll hlll)
  have hmask : bits .and .i64 v (wrap64 (wrap64 (2 ^ (8 * n)) - 1)) = v % 2 ^ (8 * n) := by
    have := andmask v (8 * n) (by omega)
    rw [wrap64_of, wrap64_of] at this
    exact this
  clear hbb hll hlb hlll
  refine (big_calls _ _ _ _ HB.out.2 _ _ _ H9.out.2.2.rd.1 (by rw [HB.out.2]; omega)).mono ?_
  rw [HB.out.1.1, HB.out.1.2]
  rintro e w10 ⟨rfl, rfl⟩
  go_wp2_with fail
  refine (little_calls _ _ _ _ HL.out.2 _ _ _ H9.out.1.rd.1 (by rw [HL.out.2]; omega)).mono ?_
  rw [HL.out.1.1, HL.out.1.2]
  rintro e w11 ⟨rfl, rfl⟩
  go_wp2_with fail
  go_ret
  exact ⟨rfl, H9.out.2.1⟩
end Go.Proofs.Ytjmgffiplkkgpaa
