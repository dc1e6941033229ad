/- The document's Read. -/
import Derived.Test.YtamkfjbdcjkchaaDoorSRrP
import Derived.Deep.DeepCutAuto
import Derived.Deep.CutBlock
namespace Go.Proofs.YtamkfjbdcjkchaaDoor
open Go.RowKit Go.Proofs.HK
set_option linter.unusedVariables false
set_option linter.unusedSimpArgs false
attribute [local go_sem] max2_int min2_int max_two min_two
/-- Where the two empty screens and the word lie. -/
def Bx (w : World) (h nb q : Nat) (W : World) : Prop :=
  W.heap[h]? = some (.cells #[.int .i64 0, .int .i64 0, .slice none 0 0, .bool false, .int .i64 0, .bool false, .int .i64 0] 26 (0, 0)) ∧ W.heap[nb]? = some (.cells #[.int .i64 0, .int .i64 0, .slice none 0 0, .bool false, .int .i64 0, .bool false, .int .i64 0] 26 (0, 0)) ∧ W.heap[q]? = some (.cells #[.int .u8 71, .int .u8 73, .int .u8 70, .int .u8 56, .int .u8 57, .int .u8 97] 5 (6, 7)) ∧ Fr No w W
theorem Bx.fr {w : World} {h nb q : Nat} {W W' : World} {S : Nat → Prop} (H : Bx w h nb q W) (hf : Fr S W W') (h1 : ¬ S h) (h2 : ¬ S nb) (h3 : ¬ S q) (h4 : ∀ k, k < w.heap.size → ¬ S k) : Bx w h nb q W' := by
  obtain ⟨a, b, c, d⟩ := H
  exact ⟨(hf.block h (Array.getElem?_eq_some_iff.1 a).1 h1).trans a, (hf.block nb (Array.getElem?_eq_some_iff.1 b).1 h2).trans b, (hf.block q (Array.getElem?_eq_some_iff.1 c).1 h3).trans c, d.trans hf (fun k hk e => h4 k hk e)⟩
theorem Bx.drewN {w : World} {h nb q : Nat} {W : World} (H : Bx w h nb q W) (n : Nat) : Bx w h nb q (W.drewN n) := ⟨H.1, H.2.1, H.2.2.1, H.2.2.2.drewN n⟩
theorem Bx.out {w : World} {h nb q : Nat} {W : World} (H : Bx w h nb q W) (e : Int) (hh : h = w.heap.size) :
    RetS w (no3 e) (.returned (.tuple #[.agg #[.int .i64 0, .int .i64 0, .slice none 0 0, .bool false, .int .i64 0, .bool false, .int .i64 0], .int .i64 0, .int .i64 e])) ((((((((W.setCell ⟨h, 0, none⟩ (.int .i64 0)).setCell ⟨h, 1, none⟩ (.int .i64 0)).setCell ⟨h, 2, none⟩ (.slice none 0 0)).setCell ⟨h, 3, none⟩ (.bool false)).setCell ⟨h, 4, none⟩ (.int .i64 0)).setCell ⟨h, 5, none⟩ (.bool false)).setCell ⟨h, 6, none⟩ (.int .i64 0))) := by
  refine ⟨none, 0, 0, rfl, TabN.nil _ _, H.2.2.2.trans (fr7 W h _ _ _ _ _ _ _) (fun k hk e => ?_)⟩
  have e : k = h := e
  omega
theorem magic_step {o : List UInt8} {k : Nat} (hk : k < 6) (hl : k < o.length) (h : o.take k = magic.take k) : (o.take 6 = magic.take o.length → rdB o k = rdB magic k) ∧ (rdB o k = rdB magic k → o.take (k + 1) = magic.take (k + 1)) := by
  constructor
  · intro e
    have e1 := congrArg (fun l => l[k]?) e
    simp only [List.getElem?_take] at e1
    rw [if_pos hk, if_pos hl] at e1
    unfold rdB
    rw [List.getD_eq_getElem?_getD, List.getD_eq_getElem?_getD, e1]
  · intro e
    rw [take_snocB o k hl, take_snocB magic k (show k < 6 from hk), h, e]
theorem magic_short {o : List UInt8} (h : o.take o.length = magic.take o.length) (hl : o.length ≤ 6) : o.take 6 = magic.take o.length := by
  rw [List.take_of_length_le hl, ← h, List.take_of_length_le (Nat.le_refl _)]
theorem magic_val (k : Nat) (hk : k < 6) : (#[.int .u8 71, .int .u8 73, .int .u8 70, .int .u8 56, .int .u8 57, .int .u8 97] : Array Value)[k]? = some (.int .u8 ((rdB magic k).toNat : Int)) := by
  rcases (show k = 0 ∨ k = 1 ∨ k = 2 ∨ k = 3 ∨ k = 4 ∨ k = 5 by omega) with h | h | h | h | h | h <;> subst h <;> rfl
theorem magic_cell {W : World} {q k : Nat} (hb : W.heap[q]? = some (.cells #[.int .u8 71, .int .u8 73, .int .u8 70, .int .u8 56, .int .u8 57, .int .u8 97] 5 (6, 7))) (hk : k < 6) : W.cell? ⟨q, k, none⟩ = some (.int .u8 ((rdB magic k).toNat : Int)) := by
  have := magic_val k hk
  simp [World.cell?, hb, this]
set_option maxRecDepth 100000 in
theorem refSized_calls (W H : Int) (w : World) (h1 : 0 ≤ W ∧ W < 65536) (h2 : 0 ≤ H ∧ H < 65536) : Calls Tryd.prog 23 #[.int .i64 W, .int .i64 H] w fun e w' => e = .returned (.bool (sizB W H)) ∧ w' = w := by
  obtain ⟨m, hm⟩ : ∃ m, m = W * H := ⟨_, rfl⟩
  have hm0 : 0 ≤ m := by rw [hm]; exact Int.mul_nonneg h1.1 h2.1
  have hm1 : m ≤ 65536 * 65536 := by rw [hm]; exact Int.mul_le_mul (by omega) (by omega) h2.1 (by omega)
  have hw : IntKind.i64.wrap (W * H) = m := by rw [← hm]; exact w64 _ (by omega) (by omega)
  have HM := hid hm
  clear hm
  by_cases c1 : 1 ≤ W
  · by_cases c2 : W ≤ 2048
    · by_cases c3 : 1 ≤ H
      · by_cases c4 : H ≤ 2048
        · have HS := hid (show sizB W H = decide (m ≤ 65536) from by unfold sizB; rw [HM.out]; rw [decide_eq_decide]; omega)
          go_enter Tryd.func23, Tryd.ntmps23
          go_wp2_with fail
          go_ret
          rw [HS.out]
          exact ⟨rfl, rfl⟩
        · have HS := hid (show sizB W H = false from by unfold sizB; rw [decide_eq_false (by omega)])
          go_enter Tryd.func23, Tryd.ntmps23
          go_wp2_with fail
          go_ret
          rw [HS.out]
          exact ⟨rfl, rfl⟩
      · have HS := hid (show sizB W H = false from by unfold sizB; rw [decide_eq_false (by omega)])
        go_enter Tryd.func23, Tryd.ntmps23
        go_wp2_with fail
        go_ret
        rw [HS.out]
        exact ⟨rfl, rfl⟩
    · have HS := hid (show sizB W H = false from by unfold sizB; rw [decide_eq_false (by omega)])
      go_enter Tryd.func23, Tryd.ntmps23
      go_wp2_with fail
      go_ret
      rw [HS.out]
      exact ⟨rfl, rfl⟩
  · have HS := hid (show sizB W H = false from by unfold sizB; rw [decide_eq_false (by omega)])
    go_enter Tryd.func23, Tryd.ntmps23
    go_wp2_with fail
    go_ret
    rw [HS.out]
    exact ⟨rfl, rfl⟩
def rGo (f : Nat) (o : List UInt8) (p : Nat) (W H : Int) (T : List UInt8) (c : Int) : Int × ScrS × Nat :=
  if (rExts f o p c).1 ≠ 0 then no3 (rExts f o p c).1 else rTail o (rExts f o p c).2.1 W H T (rExts f o p c).2.2
section
variable {f : Nat} {o : List UInt8} {p : Nat} {W H : Int} {T : List UInt8} {c : Int}
theorem rGo_end (h : ¬ (p < o.length ∧ (rdB o p).toNat = 33)) : rGo (f + 1) o p W H T c = rTail o p W H T c := by
  have hx : rExts (f + 1) o p c = (0, p, c) := by rw [rExts, if_neg h]
  unfold rGo
  rw [hx, if_neg (by simp)]
theorem rGo_short (h : p < o.length ∧ (rdB o p).toNat = 33) (h2 : o.length - p < 2) : rGo (f + 1) o p W H T c = no3 2 := by
  have hx : rExts (f + 1) o p c = (2, p, c) := by rw [rExts, if_pos h, if_pos h2]
  unfold rGo
  rw [hx, if_pos (by simp)]
theorem rGo_open (h : p < o.length ∧ (rdB o p).toNat = 33) (h2 : ¬ o.length - p < 2) (h3 : (bRun b00 (o.drop (p + 2))).done = false) : rGo (f + 1) o p W H T c = no3 2 := by
  have hx : rExts (f + 1) o p c = (2, p, c) := by rw [rExts, if_pos h, if_neg h2, if_pos h3]
  unfold rGo
  rw [hx, if_pos (by simp)]
theorem rGo_bad (h : p < o.length ∧ (rdB o p).toNat = 33) (h2 : ¬ o.length - p < 2) (h3 : ¬ (bRun b00 (o.drop (p + 2))).done = false) (h4 : (rdB o (p + 1)).toNat = 249) (h5 : (bRun b00 (o.drop (p + 2))).seen ≠ 6 ∨ (bRun b00 (o.drop (p + 2))).out.length ≠ 4) : rGo (f + 1) o p W H T c = no3 3 := by
  have hx : rExts (f + 1) o p c = (3, p, c) := by rw [rExts, if_pos h, if_neg h2, if_neg h3, if_pos h4, if_pos h5]
  unfold rGo
  rw [hx, if_pos (by simp)]
theorem rGo_249 (h : p < o.length ∧ (rdB o p).toNat = 33) (h2 : ¬ o.length - p < 2) (h3 : ¬ (bRun b00 (o.drop (p + 2))).done = false) (h4 : (rdB o (p + 1)).toNat = 249) (h5 : ¬ ((bRun b00 (o.drop (p + 2))).seen ≠ 6 ∨ (bRun b00 (o.drop (p + 2))).out.length ≠ 4)) :
    rGo (f + 1) o p W H T c = rGo f o (p + 2 + (bRun b00 (o.drop (p + 2))).seen) W H T (if (rdB (bRun b00 (o.drop (p + 2))).out 0).toNat % 2 = 1 then ((rdB (bRun b00 (o.drop (p + 2))).out 3).toNat : Int) else -1) := by
  unfold rGo
  have hx : rExts (f + 1) o p c = rExts f o (p + 2 + (bRun b00 (o.drop (p + 2))).seen) (if (rdB (bRun b00 (o.drop (p + 2))).out 0).toNat % 2 = 1 then ((rdB (bRun b00 (o.drop (p + 2))).out 3).toNat : Int) else -1) := by rw [rExts, if_pos h, if_neg h2, if_neg h3, if_pos h4, if_neg h5]
  rw [hx]
theorem rGo_other (h : p < o.length ∧ (rdB o p).toNat = 33) (h2 : ¬ o.length - p < 2) (h3 : ¬ (bRun b00 (o.drop (p + 2))).done = false) (h4 : ¬ (rdB o (p + 1)).toNat = 249) :
    rGo (f + 1) o p W H T c = rGo f o (p + 2 + (bRun b00 (o.drop (p + 2))).seen) W H T c := by
  unfold rGo
  have hx : rExts (f + 1) o p c = rExts f o (p + 2 + (bRun b00 (o.drop (p + 2))).seen) c := by rw [rExts, if_pos h, if_neg h2, if_neg h3, if_neg h4]
  rw [hx]
end
/-- Ahead of the screen's box; with an empty one; with one that holds something. -/
def Pb (w : World) (h nb q : Nat) (W : World) : Prop := Bx w h nb q W ∧ W.heap.size = w.heap.size + 3
def Qb (w : World) (h nb q g : Nat) (cs : Array Value) (W : World) : Prop := Bx w h nb q W ∧ W.heap[g]? = some (.cells cs 26 (0, 0))
theorem Pb.drewN {w : World} {h nb q : Nat} {W : World} (H : Pb w h nb q W) (n : Nat) : Pb w h nb q (W.drewN n) := ⟨H.1.drewN n, H.2⟩
theorem Pb.drew {w : World} {h nb q : Nat} {W : World} (H : Pb w h nb q W) : Pb w h nb q W.drew := H.drewN 1
theorem Qb.drewN {w : World} {h nb q g : Nat} {cs : Array Value} {W : World} (H : Qb w h nb q g cs W) (n : Nat) : Qb w h nb q g cs (W.drewN n) := ⟨H.1.drewN n, H.2⟩
theorem Pb.alloc {w : World} {h nb q : Nat} {W : World} (H : Pb w h nb q W) (cs : Array Value) (g : Nat) (hg : g = w.heap.size + 3) : Qb w h nb q g cs (W.alloc (.cells cs 26)) :=
  ⟨H.1.fr (S := No) ((Fr.refl No W).alloc _) (fun h => h) (fun h => h) (fun h => h) (fun _ _ h => h), by rw [hg, ← H.2]; exact heap_new _ _⟩
theorem Qb.fr0 {w : World} {h nb q g : Nat} {cs : Array Value} {W W' : World} (H : Qb w h nb q g cs W) (hf : Fr No W W') : Qb w h nb q g cs W' :=
  ⟨H.1.fr hf (fun h => h) (fun h => h) (fun h => h) (fun _ _ h => h), (hf.block g (Array.getElem?_eq_some_iff.1 H.2).1 (fun h => h)).trans H.2⟩
theorem Qb.fr {w : World} {h nb q g : Nat} {cs cs' : Array Value} {W W' : World} (H : Qb w h nb q g cs W) (hf : Fr (HK.One g) W W') (hb : W'.heap[g]? = some (.cells cs' 26 (0, 0))) (hh : h = w.heap.size ∧ nb = w.heap.size + 1 ∧ q = w.heap.size + 2) (hg : g = w.heap.size + 3) : Qb w h nb q g cs' W' :=
  ⟨H.1.fr hf (fun e => by have e : h = g := e; omega) (fun e => by have e : nb = g := e; omega) (fun e => by have e : q = g := e; omega) (fun k hk e => by have e : k = g := e; omega), hb⟩
def rights : Nat → Code → Code
  | 0, c => c
  | n + 1, .seq _ b => rights n b
  | _, c => c
noncomputable def tail17 : Code := rights 12 (Tryd.f9.body.getD .skip)
noncomputable def tail48 : Code := rights 17 (Tryd.f9.body.getD .skip)
noncomputable def tail60 : Code := rights 22 (Tryd.f9.body.getD .skip)
set_option maxRecDepth 1000000 in
set_option maxHeartbeats 3200000 in
theorem tail60_wp (c1 c3 c4 c7 c8 c10 c11 c12 c13 c14 c15 c16 c17 c18 c19 c20 c21 c22 c23 c24 c25 c26 c27 c28 c29 c30 c31 c32 c33 c34 c35 c36 c37 c38 c39 c40 c41 c42 c43 c44 c45 c46 c47 c48 c49 c50 c51 c52 c53 c54 c55 c56 c57 c58 c59 c60 c61 c62 c63 c64 c65 c66 c67 c68 c69 c70 c71 c72 c73 c74 c75 c76 c77 c78 c79 c80 c81 c82 c83 c84 c85 c86 c87 c88 c89 c90 c91 c92 c93 c94 c95 c96 c97 c98 c99 c100 c101 c102 c103 c104 c105 c106 c107 c108 c109 c110 c111 c112 c113 c114 c115 c116 c117 c118 c119 c120 c121 c122 c123 c124 c125 c126 c127 c128 c129 c130 c131 c132 c133 c134 c135 c136 c137 c138 c139 c140 c141 c142 c143 c144 c145 c146 c147 c148 c149 c150 c151 c152 c153 c154 c155 c156 c157 c158 c159 c160 c161 c162 c163 c164 c165 c166 c167 c168 c169 c170 c171 c172 c173 c174 c175 c176 c177 c178 c179 c180 c181 c182 c183 c184 c185 c186 c187 c188 c189 c190 c191 c192 c193 c194 c195 c196 c197 c198 c199 c200 c201 c202 c203 c204 c205 c206 c207 c208 c209 c210 c211 c212 c213 c214 c215 c216 c217 c218 c219 c220 c221 c222 c223 c224 c225 c226 c227 c228 c229 c230 c231 c232 c233 c234 c235 c236 c237 c238 c239 c240 : Value) (A : Option Addr) (o : List UInt8) (n c : Nat) (w wr : World) (h nb q g : Nat) (cl vW vH : Int) (HN : Hid (o.length = n ∧ Rd B w A o ∧ n ≤ c)) (hl : n ≤ 140737488355328) (HH : Hid (h = w.heap.size ∧ nb = w.heap.size + 1 ∧ q = w.heap.size + 2)) (HG : Hid (g = w.heap.size + 3)) (p2 : Nat) (A7 : Option Addr) (T1 : List UInt8) (tA1 : Option Addr) (tn1 tc1 : Nat) (L1 I9 : Bool) (hp2 : p2 ≤ n)
    (HE : Hid (rScr o = rEnd o p2 vW vH T1 L1 cl I9 ∧ Rd B w A7 (o.drop p2) ∧ Qb w h nb q g (scC vW vH (.slice tA1 tn1 tc1) L1 cl I9 0) wr ∧ TabN (w.heap.size + 4) wr tA1 tn1 tc1 T1)) :
    Code.wp Tryd.prog tail60 (bodyPost Tryd.prog Tryd.f9 (RetS w (rScr o))) ⟨List.toArray ((.slice A7 (n - p2) (c - p2)) :: c1 :: (.pointer (some ⟨h, 0, none⟩)) :: c3 :: c4 :: (.pointer (some ⟨nb, 0, none⟩)) :: (.int .i64 (n : Int)) :: c7 :: c8 :: (.pointer (some ⟨g, 0, none⟩)) :: c10 :: c11 :: c12 :: c13 :: c14 :: c15 :: c16 :: c17 :: c18 :: c19 :: c20 :: c21 :: c22 :: c23 :: c24 :: c25 :: c26 :: c27 :: c28 :: c29 :: c30 :: c31 :: c32 :: c33 :: c34 :: c35 :: c36 :: c37 :: c38 :: c39 :: c40 :: c41 :: c42 :: c43 :: c44 :: c45 :: c46 :: c47 :: c48 :: c49 :: c50 :: c51 :: c52 :: c53 :: c54 :: c55 :: c56 :: c57 :: c58 :: c59 :: c60 :: c61 :: c62 :: c63 :: c64 :: c65 :: c66 :: c67 :: c68 :: c69 :: c70 :: c71 :: c72 :: c73 :: c74 :: c75 :: c76 :: c77 :: c78 :: c79 :: c80 :: c81 :: c82 :: c83 :: c84 :: c85 :: c86 :: c87 :: c88 :: c89 :: c90 :: c91 :: c92 :: c93 :: c94 :: c95 :: c96 :: c97 :: c98 :: c99 :: c100 :: c101 :: c102 :: c103 :: c104 :: c105 :: c106 :: c107 :: c108 :: c109 :: c110 :: c111 :: c112 :: c113 :: c114 :: c115 :: c116 :: c117 :: c118 :: c119 :: c120 :: c121 :: c122 :: c123 :: c124 :: c125 :: c126 :: c127 :: c128 :: c129 :: c130 :: c131 :: c132 :: c133 :: c134 :: c135 :: c136 :: c137 :: c138 :: c139 :: c140 :: c141 :: c142 :: c143 :: c144 :: c145 :: c146 :: c147 :: c148 :: c149 :: c150 :: c151 :: c152 :: c153 :: c154 :: c155 :: c156 :: c157 :: c158 :: c159 :: c160 :: c161 :: c162 :: c163 :: c164 :: c165 :: c166 :: c167 :: c168 :: c169 :: c170 :: c171 :: c172 :: c173 :: c174 :: c175 :: c176 :: c177 :: c178 :: c179 :: c180 :: c181 :: c182 :: c183 :: c184 :: c185 :: c186 :: c187 :: c188 :: c189 :: c190 :: c191 :: c192 :: c193 :: c194 :: c195 :: c196 :: c197 :: c198 :: c199 :: c200 :: c201 :: c202 :: c203 :: c204 :: c205 :: c206 :: c207 :: c208 :: c209 :: c210 :: c211 :: c212 :: c213 :: c214 :: c215 :: c216 :: c217 :: c218 :: c219 :: c220 :: c221 :: c222 :: c223 :: c224 :: c225 :: c226 :: c227 :: c228 :: c229 :: c230 :: c231 :: c232 :: c233 :: c234 :: c235 :: c236 :: c237 :: c238 :: c239 :: c240 :: []), []⟩ wr := by
  conv => arg 2; whnf
  have HF12 := hid (show Fr No w wr from HE.out.2.2.1.1.2.2.2)
  obtain ⟨u0, u1, u2, u3, u4, u5, u6, uf⟩ := blk7 HE.out.2.2.1.2
  obtain ⟨z0, z1, z2, z3, z4, z5, z6, zf⟩ := blk7 HE.out.2.2.1.1.1
  obtain ⟨y0, y1, y2, y3, y4, y5, y6, yf⟩ := blk7 HE.out.2.2.1.1.2.1
  by_cases hpe : p2 = n
  · have HS := hid (show rScr o = no3 2 from by rw [HE.out.1]; unfold rEnd; rw [if_pos (by rw [HN.out.1]; omega)])
    have hz0 : n - p2 = 0 := by omega
    rw [hz0]
    clear hp2 hpe
    go_wp2_with fail
    refine ret_cell3 rfl (g := h) rfl rfl rfl (load_scr (set7 HE.out.2.2.1.1.1 _ _ _ _ _ _ _)) rfl ?_
    rw [HS.out]
    exact (HE.out.2.2.1.1).out _ HH.out.1
  · obtain ⟨ae, rfl, hcbe⟩ := (HE.out.2.1.fr0 HF12.out).atN 0 (by rw [List.length_drop, HN.out.1]; omega)
    obtain ⟨k, hk⟩ : ∃ y, y = (rdB o p2).toNat := ⟨_, rfl⟩
    have hkb : k < 256 := by rw [hk]; exact (rdB o p2).toNat_lt
    rw [rdB_drop, Nat.add_zero, ← hk] at hcbe
    have hcbe' : wr.cell? ae = some (.int .u8 (k : Int)) := hcbe
    have HS1 := hid (show rScr o = if (k : Int) < 2 ∨ 8 < (k : Int) then no3 3 else (0, ⟨vW, vH, T1, L1, cl, I9, (k : Int)⟩, p2 + 1) from by rw [HE.out.1]; unfold rEnd; rw [if_neg (by rw [HN.out.1]; omega), ← hk])
    have hne1 : (((n - p2 : Nat) : Int) == 0) = false := by rw [beq_eq_false_iff_ne]; omega
    have hpos2 : (0 : Int) < ((n - p2 : Nat) : Int) := by omega
    have hkw : IntKind.i64.wrap (k : Int) = (k : Int) := w64 _ (by omega) (by omega)
    have hs13 := fun v => zt6 HE.out.2.2.1.2 v
    clear hcbe hk
    obtain ⟨w13, hw13⟩ : ∃ W, W = wr.setCell ⟨g, 6, none⟩ (.int .i64 (k : Int)) := ⟨_, rfl⟩
    have hf13 : Fr (HK.One g) wr w13 := by rw [hw13]; exact Fr.set1 wr g 6 _
    have HQ13 := hid (show Qb w h nb q g (scC vW vH (.slice tA1 tn1 tc1) L1 cl I9 (k : Int)) w13 ∧ TabN (w.heap.size + 4) w13 tA1 tn1 tc1 T1 from ⟨HE.out.2.2.1.fr hf13 (by rw [hw13]; exact zt6 HE.out.2.2.1.2 _) HH.out HG.out, HE.out.2.2.2.fr hf13 (fun k h1 _ e => by have e : k = g := e; have := HG.out; omega)⟩)
    have HF13 := hid (show Fr No w w13 from HQ13.out.1.1.2.2.2)
    have HW13 := hid hw13
    clear hw13 hf13 hs13
    go_upto_region 63 with fail
    rw [← HW13.out]
    clear u0 u1 u2 u3 u4 u5 u6 uf z0 z1 z2 z3 z4 z5 z6 zf y0 y1 y2 y3 y4 y5 y6 yf hcbe'
    obtain ⟨u0, u1, u2, u3, u4, u5, u6, uf⟩ := blk7 HQ13.out.1.2
    obtain ⟨z0, z1, z2, z3, z4, z5, z6, zf⟩ := blk7 HQ13.out.1.1.1
    obtain ⟨y0, y1, y2, y3, y4, y5, y6, yf⟩ := blk7 HQ13.out.1.1.2.1
    by_cases hk2 : (k : Int) < 2
    · have HS := hid (show rScr o = no3 3 from by rw [HS1.out, if_pos (.inl hk2)])
      go_wp2_with fail
      refine ret_cell3 rfl (g := h) rfl rfl rfl (load_scr (set7 HQ13.out.1.1.1 _ _ _ _ _ _ _)) rfl ?_
      rw [HS.out]
      exact (HQ13.out.1.1).out _ HH.out.1
    · by_cases hk8 : 8 < (k : Int)
      · have HS := hid (show rScr o = no3 3 from by rw [HS1.out, if_pos (.inr hk8)])
        have hk8' : (k : Int) > 8 := hk8
        go_wp2_with fail
        refine ret_cell3 rfl (g := h) rfl rfl rfl (load_scr (set7 HQ13.out.1.1.1 _ _ _ _ _ _ _)) rfl ?_
        rw [HS.out]
        exact (HQ13.out.1.1).out _ HH.out.1
      · have HS := hid (show rScr o = (0, ⟨vW, vH, T1, L1, cl, I9, (k : Int)⟩, p2 + 1) from by rw [HS1.out, if_neg (by omega)])
        have hk8' : ¬ (k : Int) > 8 := hk8
        have hhg : h < g := by have := HH.out; have := HG.out; omega
        go_wp2_with fail
        refine ret_cell3 rfl (g := h) rfl rfl rfl (load_scr (set7 HQ13.out.1.1.1 _ _ _ _ _ _ _)) rfl ?_
        rw [HS.out]
        have hfs : Fr (HK.One h) w13 _ := fr7 w13 h (.int .i64 vW) (.int .i64 vH) (.slice tA1 tn1 tc1) (.bool L1) (.int .i64 cl) (.bool I9) (.int .i64 (k : Int))
        refine ⟨tA1, tn1, tc1, ?_, ?_, HF13.out.trans hfs (fun k hk e => by have e : k = h := e; have := HH.out; omega)⟩
        · rw [show (n : Int) - ((n - p2 : Nat) : Int) + 1 = ((p2 + 1 : Nat) : Int) by omega]; rfl
        · obtain ⟨h1, ob, h2, h3⟩ := HQ13.out.2.fr hfs (fun k h1 _ e => by have e : k = h := e; have := HH.out; omega)
          exact ⟨h1, ob, h2, fun k e => by have := h3 k e; omega⟩
set_option maxRecDepth 1000000 in
set_option maxHeartbeats 3200000 in
theorem tail48_wp (c1 c3 c4 c7 c8 c10 c11 c12 c13 c14 c15 c16 c17 c18 c19 c20 c21 c22 c23 c24 c25 c26 c27 c28 c29 c30 c31 c32 c33 c34 c35 c36 c37 c38 c39 c40 c41 c42 c43 c44 c45 c46 c47 c48 c49 c50 c51 c52 c53 c54 c55 c56 c57 c58 c59 c60 c61 c62 c63 c64 c65 c66 c67 c68 c69 c70 c71 c72 c73 c74 c75 c76 c77 c78 c79 c80 c81 c82 c83 c84 c85 c86 c87 c88 c89 c90 c91 c92 c93 c94 c95 c96 c97 c98 c99 c100 c101 c102 c103 c104 c105 c106 c107 c108 c109 c110 c111 c112 c113 c114 c115 c116 c117 c118 c119 c120 c121 c122 c123 c124 c125 c126 c127 c128 c129 c130 c131 c132 c133 c134 c135 c136 c137 c138 c139 c140 c141 c142 c143 c144 c145 c146 c147 c148 c149 c150 c151 c152 c153 c154 c155 c156 c157 c158 c159 c160 c161 c162 c163 c164 c165 c166 c167 c168 c169 c170 c171 c172 c173 c174 c175 c176 c177 c178 c179 c180 c181 c182 c183 c184 c185 c186 c187 c188 c189 c190 c191 c192 c193 c194 c195 c196 c197 c198 c199 c200 c201 c202 c203 c204 c205 c206 c207 c208 c209 c210 c211 c212 c213 c214 c215 c216 c217 c218 c219 c220 c221 c222 c223 c224 c225 c226 c227 c228 c229 c230 c231 c232 c233 c234 c235 c236 c237 c238 c239 c240 : Value) (A : Option Addr) (o : List UInt8) (n c : Nat) (w wr : World) (h nb q g : Nat) (cl vW vH : Int) (HN : Hid (o.length = n ∧ Rd B w A o ∧ n ≤ c)) (hl : n ≤ 140737488355328) (HH : Hid (h = w.heap.size ∧ nb = w.heap.size + 1 ∧ q = w.heap.size + 2)) (HG : Hid (g = w.heap.size + 3)) (A5 : Option Addr) (ad : Addr) (hA5 : A5 = some ad) (p : Nat) (T0 : List UInt8) (tA : Option Addr) (tn tc : Nat) (hp10 : 10 ≤ n - p) (hp1 : p < n)
    (HT11h : Hid (rScr o = if (rdB o (p + 9)).toNat < 128 then (if T0 = [] then no3 12 else rEnd o (p + 10) vW vH T0 false cl (decide ((rdB o (p + 9)).toNat / 64 % 2 = 1))) else if o.length - (p + 10) < 6 * 2 ^ ((rdB o (p + 9)).toNat % 8) then no3 2 else rEnd o (p + 10 + 6 * 2 ^ ((rdB o (p + 9)).toNat % 8)) vW vH ((o.drop (p + 10)).take (6 * 2 ^ ((rdB o (p + 9)).toNat % 8))) true cl (decide ((rdB o (p + 9)).toNat / 64 % 2 = 1)))) (hrd : Hid (Rd B w (some ad) (o.drop p))) (HQ9 : Hid (Qb w h nb q g (scC vW vH (.slice tA tn tc) false cl false 0) wr ∧ TabN (w.heap.size + 4) wr tA tn tc T0)) :
    Code.wp Tryd.prog tail48 (bodyPost Tryd.prog Tryd.f9 (RetS w (rScr o))) ⟨List.toArray ((.slice A5 (n - p) (c - p)) :: c1 :: (.pointer (some ⟨h, 0, none⟩)) :: c3 :: c4 :: (.pointer (some ⟨nb, 0, none⟩)) :: (.int .i64 (n : Int)) :: c7 :: c8 :: (.pointer (some ⟨g, 0, none⟩)) :: c10 :: c11 :: c12 :: c13 :: c14 :: c15 :: c16 :: c17 :: c18 :: c19 :: c20 :: c21 :: c22 :: c23 :: c24 :: c25 :: c26 :: c27 :: c28 :: c29 :: c30 :: c31 :: c32 :: c33 :: c34 :: c35 :: c36 :: c37 :: c38 :: c39 :: c40 :: c41 :: c42 :: c43 :: c44 :: c45 :: c46 :: c47 :: c48 :: c49 :: c50 :: c51 :: c52 :: c53 :: c54 :: c55 :: c56 :: c57 :: c58 :: c59 :: c60 :: c61 :: c62 :: c63 :: c64 :: c65 :: c66 :: c67 :: c68 :: c69 :: c70 :: c71 :: c72 :: c73 :: c74 :: c75 :: c76 :: c77 :: c78 :: c79 :: c80 :: c81 :: c82 :: c83 :: c84 :: c85 :: c86 :: c87 :: c88 :: c89 :: c90 :: c91 :: c92 :: c93 :: c94 :: c95 :: c96 :: c97 :: c98 :: c99 :: c100 :: c101 :: c102 :: c103 :: c104 :: c105 :: c106 :: c107 :: c108 :: c109 :: c110 :: c111 :: c112 :: c113 :: c114 :: c115 :: c116 :: c117 :: c118 :: c119 :: c120 :: c121 :: c122 :: c123 :: c124 :: c125 :: c126 :: c127 :: c128 :: c129 :: c130 :: c131 :: c132 :: c133 :: c134 :: c135 :: c136 :: c137 :: c138 :: c139 :: c140 :: c141 :: c142 :: c143 :: c144 :: c145 :: c146 :: c147 :: c148 :: c149 :: c150 :: c151 :: c152 :: c153 :: c154 :: c155 :: c156 :: c157 :: c158 :: c159 :: c160 :: c161 :: c162 :: c163 :: c164 :: c165 :: c166 :: c167 :: c168 :: c169 :: c170 :: c171 :: c172 :: c173 :: c174 :: c175 :: c176 :: c177 :: c178 :: c179 :: c180 :: c181 :: c182 :: c183 :: c184 :: c185 :: c186 :: c187 :: c188 :: c189 :: c190 :: c191 :: c192 :: c193 :: c194 :: c195 :: c196 :: c197 :: c198 :: c199 :: c200 :: c201 :: c202 :: c203 :: c204 :: c205 :: c206 :: c207 :: c208 :: c209 :: c210 :: c211 :: c212 :: c213 :: c214 :: c215 :: c216 :: c217 :: c218 :: c219 :: c220 :: c221 :: c222 :: c223 :: c224 :: c225 :: c226 :: c227 :: c228 :: c229 :: c230 :: c231 :: c232 :: c233 :: c234 :: c235 :: c236 :: c237 :: c238 :: c239 :: c240 :: []), []⟩ wr := by
  subst hA5
  have hp : p ≤ n := by omega
  have HF9 := hid (show Fr No w wr from HQ9.out.1.1.2.2.2)
  conv => arg 2; whnf
  obtain ⟨u0, u1, u2, u3, u4, u5, u6, uf⟩ := blk7 HQ9.out.1.2
  obtain ⟨z0, z1, z2, z3, z4, z5, z6, zf⟩ := blk7 HQ9.out.1.1.1
  obtain ⟨y0, y1, y2, y3, y4, y5, y6, yf⟩ := blk7 HQ9.out.1.1.2.1
  have HT11x := HT11h.out
  obtain ⟨ad', hadq, hcb9⟩ := (hrd.out.fr0 HF9.out).atN 9 (by rw [List.length_drop, HN.out.1]; omega)
  obtain rfl : ad = ad' := Option.some.inj hadq
  clear hadq
  obtain ⟨m9, hm9⟩ : ∃ y, y = (rdB o (p + 9)).toNat := ⟨_, rfl⟩
  have hm9b : m9 < 256 := by rw [hm9]; exact (rdB o (p + 9)).toNat_lt
  rw [rdB_drop, ← hm9] at hcb9
  rw [← hm9] at HT11x
  have hcb9' : wr.cell? ⟨ad.block, ad.off + 9, none⟩ = some (.int .u8 (m9 : Int)) := by
    have e := hcb9
    rw [show (9 : Nat) = 8 + 1 from rfl, add_succ'] at e
    exact e
  have HT12 := hid HT11x
  have h9n : (9 : Int) < ((n - p : Nat) : Int) := by omega
  have hm90 : (0 : Int) ≤ (m9 : Int) := by omega
  have hcu10 := cut_l slU8 (some ad) (n - p) (c - p) 10 10 rfl (by omega)
  obtain ⟨A10, hA10⟩ : ∃ P, P = cutA (some ad) (c - p) 10 1 := ⟨_, rfl⟩
  rw [← hA10, show n - p - 10 = n - (p + 10) by omega, show c - p - 10 = c - (p + 10) by omega] at hcu10
  have HRD10 := hid (show Rd B w A10 (o.drop (p + 10)) from by
    rw [hA10, show o.drop (p + 10) = (o.drop p).drop 10 by rw [List.drop_drop]]
    exact hrd.out.cutA 10 (c - p) (by rw [List.length_drop, HN.out.1]; have := HN.out.2.2; omega) (by rw [List.length_drop, HN.out.1]; omega))
  obtain ⟨I9, hI9⟩ : ∃ b, b = decide (m9 / 64 % 2 = 1) := ⟨_, rfl⟩
  rw [← hI9] at HT12
  have hI : ((m9 : Int) / 64 % 2 == 1) = I9 := by
    rw [hI9, Bool.eq_iff_iff]
    simp only [beq_iff_eq, decide_eq_true_eq]
    omega
  have hT0 := HQ9.out.2.1
  clear HT11x hcb9 hm9 hA10 hI9
  by_cases hbad : m9 < 128 ∧ tn = 0
  · have HS := hid (show rScr o = no3 12 from by rw [HT12.out, if_pos hbad.1, if_pos (List.length_eq_zero_iff.1 (by rw [hT0, hbad.2]))])
    obtain ⟨hb1, hb2⟩ := hbad
    have hb1' : (m9 : Int) < 128 := by omega
    have hb2' : ((tn : Int) == 0) = true := by rw [beq_iff_eq]; omega
    clear hT0
    go_wp2_with fail
    refine ret_cell3 rfl (g := h) rfl rfl rfl (load_scr (set7 HQ9.out.1.1.1 _ _ _ _ _ _ _)) rfl ?_
    rw [HS.out]
    exact (HQ9.out.1.1).out _ HH.out.1
  · obtain ⟨b49, hb49⟩ : ∃ b : Bool, b = decide (m9 < 128 ∧ tn = 0) := ⟨_, rfl⟩
    rw [decide_eq_false hbad] at hb49
    have HBD := hid hbad
    have HT0 := hid hT0
    clear hT0 hb49
    go_upto_region 49 with fail
    go_cut [189] (fun s189 wx => s189 = .bool false ∧ wx = wr)
    case first =>
      by_cases hlo : m9 < 128
      · have hlo' : (m9 : Int) < 128 := by omega
        have htn0 : ((tn : Int) == 0) = false := by rw [beq_eq_false_iff_ne]; have := HBD.out; omega
        go_wp2_with fail
        go_meet
        exact ⟨rfl, rfl⟩
      · have hlo' : ¬ (m9 : Int) < 128 := by omega
        go_wp2_with fail
        go_meet
        exact ⟨rfl, rfl⟩
    case rest =>
      obtain ⟨rfl, hwc⟩ := hcut
      rw [hwc]
      clear hwc
      go_upto_if 199 with fail
      obtain ⟨w10, hw10⟩ : ∃ W, W = wr.setCell ⟨g, 5, none⟩ (.bool I9) := ⟨_, rfl⟩
      rw [← hw10]
      have hf10 : Fr (HK.One g) wr w10 := by rw [hw10]; exact Fr.set1 wr g 5 _
      have hb10 : w10.heap[g]? = some (.cells (scC vW vH (.slice tA tn tc) false cl I9 0) 26 (0, 0)) := by rw [hw10]; exact zt5 HQ9.out.1.2 _
      have HQ10 := hid (And.intro (HQ9.out.1.fr hf10 hb10 HH.out HG.out) (HQ9.out.2.fr hf10 (fun k h1 _ e => by have e : k = g := e; have := HG.out; omega)))
      have HF10 := hid (show Fr No w w10 from HQ10.out.1.1.2.2.2)
      clear hw10 hf10 hb10 u0 u1 u2 u3 u4 u5 u6 uf z0 z1 z2 z3 z4 z5 z6 zf y0 y1 y2 y3 y4 y5 y6 yf hcb9' hcu10
      go_cut [0] (fun s0 wx => ∃ (p2 : Nat) (A7 : Option Addr) (T1 : List UInt8) (tA1 : Option Addr) (tn1 tc1 : Nat) (L1 : Bool), s0 = .slice A7 (n - p2) (c - p2) ∧ p2 ≤ n ∧ Hid (rScr o = rEnd o p2 vW vH T1 L1 cl I9 ∧ Rd B w A7 (o.drop p2) ∧ Qb w h nb q g (scC vW vH (.slice tA1 tn1 tc1) L1 cl I9 0) wx ∧ TabN (w.heap.size + 4) wx tA1 tn1 tc1 T1))
      case first =>
        by_cases hlo : m9 < 128
        · have hge : ((m9 : Int) ≥ 128) = False := by simp; omega
          go_wp2_with fail
          go_meet
          refine ⟨p + 10, A10, T0, tA, tn, tc, false, rfl, by omega, hid ⟨?_, HRD10.out, HQ10.out.1, HQ10.out.2⟩⟩
          rw [HT12.out, if_pos hlo, if_neg (fun e => by have h1 := HT0.out; rw [e] at h1; have h2 := HBD.out; simp only [List.length_nil] at h1; omega)]
        · have hge : (m9 : Int) ≥ 128 := by omega
          have HTC := hid (table17_calls A10 (o.drop (p + 10)) (n - (p + 10)) (c - (p + 10)) m9 hm9b (by rw [List.length_drop, HN.out.1]) w10 (HRD10.out.fr0 HF10.out) (by omega))
          have HT13a := HT12.out
          rw [if_neg hlo] at HT13a
          have HT13 := hid HT13a
          clear HT13a
          by_cases hs : n - (p + 10) < 6 * 2 ^ (m9 % 8)
          · have HS := hid (show rScr o = no3 2 from by rw [HT13.out, if_pos (by rw [HN.out.1]; exact hs)])
            have HSX := hid hs
            clear hs
            go_wp2_with fail
            refine HTC.out.mono ?_
            rintro e w11 ⟨he, hf11⟩
            rw [if_pos (by rw [List.length_drop, HN.out.1]; exact HSX.out)] at he
            subst he
            have HQ11 := hid (show Bx w h nb q w11 from HQ10.out.1.1.fr hf11 (fun h => h) (fun h => h) (fun h => h) (fun _ _ h => h))
            clear hf11
            obtain ⟨z0, z1, z2, z3, z4, z5, z6, zf⟩ := blk7 HQ11.out.1
            obtain ⟨y0, y1, y2, y3, y4, y5, y6, yf⟩ := blk7 HQ11.out.2.1
            go_wp2_with fail
            refine ret_cell3 rfl (g := h) rfl rfl rfl (load_scr (set7 HQ11.out.1 _ _ _ _ _ _ _)) rfl ?_
            rw [HS.out]
            exact (HQ11.out).out _ HH.out.1
          · have HSX := hid hs
            clear hs
            go_wp2_with fail
            refine HTC.out.mono ?_
            rintro e w11 ⟨he, hf11⟩
            rw [if_neg (by rw [List.length_drop, HN.out.1]; exact HSX.out)] at he
            obtain ⟨tA1, tn1, tc1, rfl, ht4⟩ := he
            obtain ⟨b6, hb6⟩ : ∃ x, x = 6 * 2 ^ (m9 % 8) := ⟨_, rfl⟩
            rw [← hb6] at HSX ht4 HT13
            have h3n : b6 = 3 * tn1 := by
              have h1 := ht4.1
              rw [List.length_take, List.length_drop, HN.out.1] at h1
              have := HSX.out
              omega
            have hb6n : b6 ≤ n - (p + 10) := by have := HSX.out; omega
            have HB6 := hid (And.intro hb6 h3n)
            clear hb6 h3n
            have htn : 3 * tn1 ≤ n - (p + 10) := by have := HB6.out.2; omega
            clear hb6n
            have hw3 : IntKind.i64.wrap (3 * (tn1 : Int)) = 3 * (tn1 : Int) := w64 _ (by omega) (by omega)
            have hcut5 := cut_l slU8 A10 (n - (p + 10)) (c - (p + 10)) (3 * (tn1 : Int)) (3 * tn1) (by omega) htn
            have HQ11 := hid (show Qb w h nb q g (scC vW vH (.slice tA tn tc) false cl I9 0) w11 from HQ10.out.1.fr0 hf11)
            have HT11x := hid (show TabN (w.heap.size + 4) w11 tA1 tn1 tc1 ((o.drop (p + 10)).take b6) from by
              obtain ⟨h1, ob, h2, h3⟩ := ht4
              exact ⟨h1, ob, h2, fun k e => by have := h3 k e; have := (Array.getElem?_eq_some_iff.1 HQ10.out.1.2).1; have := HG.out; omega⟩)
            clear hf11 ht4
            obtain ⟨u0, u1, u2, u3, u4, u5, u6, uf⟩ := blk7 HQ11.out.2
            go_wp2_with fail
            go_meet
            have hfs : Fr (HK.One g) w11 (w11.setCell ⟨g, 2, none⟩ (.slice tA1 tn1 tc1)) := Fr.set1 w11 g 2 _
            have hfs2 : Fr (HK.One g) (w11.setCell ⟨g, 2, none⟩ (.slice tA1 tn1 tc1)) ((w11.setCell ⟨g, 2, none⟩ (.slice tA1 tn1 tc1)).setCell ⟨g, 3, none⟩ (.bool true)) := Fr.set1 _ g 3 _
            refine ⟨p + 10 + 3 * tn1, cutA A10 (c - (p + 10)) (3 * tn1) 1, (o.drop (p + 10)).take b6, tA1, tn1, tc1, true, by rw [show n - (p + 10) - 3 * tn1 = n - (p + 10 + 3 * tn1) by omega, show c - (p + 10) - 3 * tn1 = c - (p + 10 + 3 * tn1) by omega], by omega, hid ⟨?_, ?_, HQ11.out.fr (hfs.then hfs2) (zt3 (zt2 HQ11.out.2 _) _) HH.out HG.out, (HT11x.out.fr hfs (fun k h1 _ e => by have e : k = g := e; have := HG.out; omega)).fr hfs2 (fun k h1 _ e => by have e : k = g := e; have := HG.out; omega)⟩⟩
            · rw [HT13.out, if_neg (by rw [HN.out.1]; exact HSX.out), HB6.out.2]
            · rw [show o.drop (p + 10 + 3 * tn1) = (o.drop (p + 10)).drop (3 * tn1) by rw [List.drop_drop]]
              exact HRD10.out.cutA (3 * tn1) (c - (p + 10)) (by rw [List.length_drop, HN.out.1]; have := HN.out.2.2; omega) (by rw [List.length_drop, HN.out.1]; exact htn)
      case rest =>
        obtain ⟨p2, A7, T1, tA1, tn1, tc1, L1, rfl, hp2, hfc⟩ := hcut
        obtain ⟨w12, rfl⟩ : ∃ x : World, x = wc := ⟨_, rfl⟩
        go_step
        show Code.wp Tryd.prog tail60 (bodyPost Tryd.prog Tryd.f9 (RetS w (rScr o))) _ _
        exact tail60_wp _ _ _ _ _ _ _ _ _ _ _ _ _ _ _ _ _ _ _ _ _ _ _ _ _ _ _ _ _ _ _ _ _ _ _ _ _ _ _ _ _ _ _ _ _ _ _ _ _ _ _ _ _ _ _ _ _ _ _ _ _ _ _ _ _ _ _ _ _ _ _ _ _ _ _ _ _ _ _ _ _ _ _ _ _ _ _ _ _ _ _ _ _ _ _ _ _ _ _ _ _ _ _ _ _ _ _ _ _ _ _ _ _ _ _ _ _ _ _ _ _ _ _ _ _ _ _ _ _ _ _ _ _ _ _ _ _ _ _ _ _ _ _ _ _ _ _ _ _ _ _ _ _ _ _ _ _ _ _ _ _ _ _ _ _ _ _ _ _ _ _ _ _ _ _ _ _ _ _ _ _ _ _ _ _ _ _ _ _ _ _ _ _ _ _ _ _ _ _ _ _ _ _ _ _ _ _ _ _ _ _ _ _ _ _ _ _ _ _ _ _ _ _ _ _ _ _ _ _ _ _ _ _ _ _ _ _ o n c w w12 h nb q g cl vW vH HN hl HH HG p2 A7 T1 tA1 tn1 tc1 L1 I9 hp2 hfc
set_option maxRecDepth 1000000 in
set_option maxHeartbeats 3200000 in
theorem tail17_wp (c1 c3 c4 c7 c8 c10 c11 c12 c13 c14 c15 c16 c17 c18 c19 c20 c21 c22 c23 c24 c25 c26 c27 c28 c29 c30 c31 c32 c33 c34 c35 c36 c37 c38 c39 c40 c41 c42 c43 c44 c45 c46 c47 c48 c49 c50 c51 c52 c53 c54 c55 c56 c57 c58 c59 c60 c61 c62 c63 c64 c65 c66 c67 c68 c69 c70 c71 c72 c73 c74 c75 c76 c77 c78 c79 c80 c81 c82 c83 c84 c85 c86 c87 c88 c89 c90 c91 c92 c93 c94 c95 c96 c97 c98 c99 c100 c101 c102 c103 c104 c105 c106 c107 c108 c109 c110 c111 c112 c113 c114 c115 c116 c117 c118 c119 c120 c121 c122 c123 c124 c125 c126 c127 c128 c129 c130 c131 c132 c133 c134 c135 c136 c137 c138 c139 c140 c141 c142 c143 c144 c145 c146 c147 c148 c149 c150 c151 c152 c153 c154 c155 c156 c157 c158 c159 c160 c161 c162 c163 c164 c165 c166 c167 c168 c169 c170 c171 c172 c173 c174 c175 c176 c177 c178 c179 c180 c181 c182 c183 c184 c185 c186 c187 c188 c189 c190 c191 c192 c193 c194 c195 c196 c197 c198 c199 c200 c201 c202 c203 c204 c205 c206 c207 c208 c209 c210 c211 c212 c213 c214 c215 c216 c217 c218 c219 c220 c221 c222 c223 c224 c225 c226 c227 c228 c229 c230 c231 c232 c233 c234 c235 c236 c237 c238 c239 c240 : Value) (A A5 : Option Addr) (o : List UInt8) (n c : Nat) (w wr : World) (h nb q g p : Nat) (cl vW vH : Int) (T0 : List UInt8) (tA : Option Addr) (tn tc : Nat)
    (HN : Hid (o.length = n ∧ Rd B w A o ∧ n ≤ c)) (hl : n ≤ 140737488355328) (HH : Hid (h = w.heap.size ∧ nb = w.heap.size + 1 ∧ q = w.heap.size + 2)) (HG : Hid (g = w.heap.size + 3)) (hp : p ≤ n)
    (bW : 0 ≤ vW ∧ vW < 65536) (bH : 0 ≤ vH ∧ vH < 65536) (HTL : Hid (rScr o = rTail o p vW vH T0 cl))
    (HRQ : Hid (True ∧ Rd B w A5 (o.drop p) ∧ Qb w h nb q g (scC vW vH (.slice tA tn tc) false cl false 0) wr ∧ TabN (w.heap.size + 4) wr tA tn tc T0)) :
    Code.wp Tryd.prog tail17 (bodyPost Tryd.prog Tryd.f9 (RetS w (rScr o))) ⟨List.toArray ((.slice A5 (n - p) (c - p)) :: c1 :: (.pointer (some ⟨h, 0, none⟩)) :: c3 :: c4 :: (.pointer (some ⟨nb, 0, none⟩)) :: (.int .i64 (n : Int)) :: c7 :: c8 :: (.pointer (some ⟨g, 0, none⟩)) :: c10 :: c11 :: c12 :: c13 :: c14 :: c15 :: c16 :: c17 :: c18 :: c19 :: c20 :: c21 :: c22 :: c23 :: c24 :: c25 :: c26 :: c27 :: c28 :: c29 :: c30 :: c31 :: c32 :: c33 :: c34 :: c35 :: c36 :: c37 :: c38 :: c39 :: c40 :: c41 :: c42 :: c43 :: c44 :: c45 :: c46 :: c47 :: c48 :: c49 :: c50 :: c51 :: c52 :: c53 :: c54 :: c55 :: c56 :: c57 :: c58 :: c59 :: c60 :: c61 :: c62 :: c63 :: c64 :: c65 :: c66 :: c67 :: c68 :: c69 :: c70 :: c71 :: c72 :: c73 :: c74 :: c75 :: c76 :: c77 :: c78 :: c79 :: c80 :: c81 :: c82 :: c83 :: c84 :: c85 :: c86 :: c87 :: c88 :: c89 :: c90 :: c91 :: c92 :: c93 :: c94 :: c95 :: c96 :: c97 :: c98 :: c99 :: c100 :: c101 :: c102 :: c103 :: c104 :: c105 :: c106 :: c107 :: c108 :: c109 :: c110 :: c111 :: c112 :: c113 :: c114 :: c115 :: c116 :: c117 :: c118 :: c119 :: c120 :: c121 :: c122 :: c123 :: c124 :: c125 :: c126 :: c127 :: c128 :: c129 :: c130 :: c131 :: c132 :: c133 :: c134 :: c135 :: c136 :: c137 :: c138 :: c139 :: c140 :: c141 :: c142 :: c143 :: c144 :: c145 :: c146 :: c147 :: c148 :: c149 :: c150 :: c151 :: c152 :: c153 :: c154 :: c155 :: c156 :: c157 :: c158 :: c159 :: c160 :: c161 :: c162 :: c163 :: c164 :: c165 :: c166 :: c167 :: c168 :: c169 :: c170 :: c171 :: c172 :: c173 :: c174 :: c175 :: c176 :: c177 :: c178 :: c179 :: c180 :: c181 :: c182 :: c183 :: c184 :: c185 :: c186 :: c187 :: c188 :: c189 :: c190 :: c191 :: c192 :: c193 :: c194 :: c195 :: c196 :: c197 :: c198 :: c199 :: c200 :: c201 :: c202 :: c203 :: c204 :: c205 :: c206 :: c207 :: c208 :: c209 :: c210 :: c211 :: c212 :: c213 :: c214 :: c215 :: c216 :: c217 :: c218 :: c219 :: c220 :: c221 :: c222 :: c223 :: c224 :: c225 :: c226 :: c227 :: c228 :: c229 :: c230 :: c231 :: c232 :: c233 :: c234 :: c235 :: c236 :: c237 :: c238 :: c239 :: c240 :: []), []⟩ wr := by
  have HFR := hid (show Fr No w wr from HRQ.out.2.2.1.1.2.2.2)
  conv => arg 2; whnf
  obtain ⟨u0, u1, u2, u3, u4, u5, u6, uf⟩ := blk7 HRQ.out.2.2.1.2
  obtain ⟨z0, z1, z2, z3, z4, z5, z6, zf⟩ := blk7 HRQ.out.2.2.1.1.1
  obtain ⟨y0, y1, y2, y3, y4, y5, y6, yf⟩ := blk7 HRQ.out.2.2.1.1.2.1
  by_cases hpn : p = n
  · have HS := hid (show rScr o = no3 2 from by rw [HTL.out]; unfold rTail; rw [if_pos (by rw [HN.out.1]; omega)])
    have hz0 : n - p = 0 := by omega
    rw [hz0]
    clear hp hpn
    go_wp2_with fail
    refine ret_cell3 rfl (g := h) rfl rfl rfl (load_scr (set7 HRQ.out.2.2.1.1.1 _ _ _ _ _ _ _)) rfl ?_
    rw [HS.out]
    exact (HRQ.out.2.2.1.1).out _ HH.out.1
  · have hp1 : p < n := by omega
    obtain ⟨ad, rfl, hcb⟩ := (HRQ.out.2.1.fr0 HFR.out).atN 0 (by rw [List.length_drop, HN.out.1]; omega)
    obtain ⟨x, hx⟩ : ∃ x, x = (rdB o p).toNat := ⟨_, rfl⟩
    have hxb : x < 256 := by rw [hx]; exact (rdB o p).toNat_lt
    rw [rdB_drop, Nat.add_zero, ← hx] at hcb
    have hcb0 : wr.cell? ad = some (.int .u8 (x : Int)) := hcb
    have HX := hid hx
    have hpos : (0 : Int) < ((n - p : Nat) : Int) := by omega
    clear hcb hx hpn
    have HPN := hid (show ¬ o.length ≤ p from by rw [HN.out.1]; omega)
    have hne0 : (((n - p : Nat) : Int) == 0) = false := by rw [beq_eq_false_iff_ne]; omega
    by_cases h59 : x = 59
    · subst h59
      have HS := hid (show rScr o = no3 16 from by rw [HTL.out]; unfold rTail; rw [if_neg HPN.out, if_pos HX.out.symm])
      go_wp2_with fail
      refine ret_cell3 rfl (g := h) rfl rfl rfl (load_scr (set7 HRQ.out.2.2.1.1.1 _ _ _ _ _ _ _)) rfl ?_
      rw [HS.out]
      exact (HRQ.out.2.2.1.1).out _ HH.out.1
    · have h59' : ((x : Int) == 59) = false := by rw [beq_eq_false_iff_ne]; omega
      by_cases h44 : x = 44
      · subst h44
        by_cases h10 : n - p < 10
        · have HS := hid (show rScr o = no3 2 from by rw [HTL.out]; unfold rTail; rw [if_neg HPN.out, if_neg (by rw [← HX.out]; exact h59), if_neg (by rw [← HX.out]; simp), if_pos (by rw [HN.out.1]; exact h10)])
          have h10' : ((n - p : Nat) : Int) < 10 := by omega
          go_wp2_with fail
          refine ret_cell3 rfl (g := h) rfl rfl rfl (load_scr (set7 HRQ.out.2.2.1.1.1 _ _ _ _ _ _ _)) rfl ?_
          rw [HS.out]
          exact (HRQ.out.2.2.1.1).out _ HH.out.1
        · have h10' : ¬ ((n - p : Nat) : Int) < 10 := by omega
          have HT10 := hid (show rScr o = if ¬ (rNum o (p + 1) = 0 ∧ rNum o (p + 3) = 0 ∧ rNum o (p + 5) = vW ∧ rNum o (p + 7) = vH) then no3 11
              else if (rdB o (p + 9)).toNat < 128 then (if T0 = [] then no3 12 else rEnd o (p + 10) vW vH T0 false cl (decide ((rdB o (p + 9)).toNat / 64 % 2 = 1)))
              else if o.length - (p + 10) < 6 * 2 ^ ((rdB o (p + 9)).toNat % 8) then no3 2
              else rEnd o (p + 10 + 6 * 2 ^ ((rdB o (p + 9)).toNat % 8)) vW vH ((o.drop (p + 10)).take (6 * 2 ^ ((rdB o (p + 9)).toNat % 8))) true cl (decide ((rdB o (p + 9)).toNat / 64 % 2 = 1)) from by
            rw [HTL.out]; unfold rTail; rw [if_neg HPN.out, if_neg (by rw [← HX.out]; exact h59), if_neg (by rw [← HX.out]; simp), if_neg (by rw [HN.out.1]; exact h10)])
          go_upto_region 46 with fail
          clear hcb0 hne0 h59' h10' hpos
          obtain ⟨q1, hq1⟩ : ∃ q, q = rNum o (p + 1) := ⟨_, rfl⟩
          obtain ⟨q3, hq3⟩ : ∃ q, q = rNum o (p + 3) := ⟨_, rfl⟩
          obtain ⟨q5, hq5⟩ : ∃ q, q = rNum o (p + 5) := ⟨_, rfl⟩
          obtain ⟨q7, hq7⟩ : ∃ q, q = rNum o (p + 7) := ⟨_, rfl⟩
          rw [← hq1, ← hq3, ← hq5, ← hq7] at HT10
          obtain ⟨bb, hbb⟩ : ∃ b : Bool, b = !decide (q1 = 0 ∧ q3 = 0 ∧ q5 = vW ∧ q7 = vH) := ⟨_, rfl⟩
          have HBB := hid hbb
          have hnum : ∀ (i : Nat) (q : Int), q = rNum o (p + i) → p + i + 2 ≤ n → ∀ m, Calls Tryd.prog 22 #[.slice (cutA (some ad) (c - p) i 1) (n - p - i) (c - p - i)] (wr.drewN m) fun e w' => e = .returned (.int .i64 q) ∧ ∃ z, w' = (wr.drewN m).drewN z := fun i q hq hi m => by
            have hc' := HN.out.2.2
            have := number17_calls (cutA (some ad) (c - p) i 1) (o.drop (p + i)) (n - p - i) (c - p - i) (by rw [List.length_drop, HN.out.1]; omega) (by omega) (wr.drewN m) (by
              rw [show o.drop (p + i) = (o.drop p).drop i by rw [List.drop_drop]]
              exact (HRQ.out.2.1.cutA i (c - p) (by rw [List.length_drop, HN.out.1]; omega) (by rw [List.length_drop, HN.out.1]; omega)).fr0 (HFR.out.drewN m))
            rw [le_two _ (by rw [List.length_drop, HN.out.1]; omega), rdB_drop, rdB_drop] at this
            rw [hq]
            exact this
          have K1 := hid (hnum 1 q1 hq1 (by omega))
          have K3 := hid (hnum 3 q3 hq3 (by omega))
          have K5 := hid (hnum 5 q5 hq5 (by omega))
          have K7 := hid (hnum 7 q7 hq7 (by omega))
          clear hnum hq1 hq3 hq5 hq7 hbb
          go_cut [177] (fun s177 wx => s177 = .bool bb ∧ ∃ z, wx = wr.drewN z)
          case first =>
            have hcu1 := cut_l slU8 (some ad) (n - p) (c - p) 1 1 rfl (by omega)
            have hcu3 := cut_l slU8 (some ad) (n - p) (c - p) 3 3 rfl (by omega)
            have hcu5 := cut_l slU8 (some ad) (n - p) (c - p) 5 5 rfl (by omega)
            have hcu7 := cut_l slU8 (some ad) (n - p) (c - p) 7 7 rfl (by omega)
            have fin : bb = (q1 != 0 || (q3 != 0 || (q5 != vW || q7 != vH))) := by
              rw [HBB.out, Bool.eq_iff_iff]
              simp only [Bool.not_eq_true', decide_eq_false_iff_not, Bool.or_eq_true, bne_iff_ne]
              omega
            have FIN := hid fin
            clear fin
            obtain ⟨P1, hP1⟩ : ∃ P, P = Value.slice (cutA (some ad) (c - p) 1 1) (n - p - 1) (c - p - 1) := ⟨_, rfl⟩
            obtain ⟨P3, hP3⟩ : ∃ P, P = Value.slice (cutA (some ad) (c - p) 3 1) (n - p - 3) (c - p - 3) := ⟨_, rfl⟩
            obtain ⟨P5, hP5⟩ : ∃ P, P = Value.slice (cutA (some ad) (c - p) 5 1) (n - p - 5) (c - p - 5) := ⟨_, rfl⟩
            obtain ⟨P7, hP7⟩ : ∃ P, P = Value.slice (cutA (some ad) (c - p) 7 1) (n - p - 7) (c - p - 7) := ⟨_, rfl⟩
            rw [← hP1] at hcu1 K1
            rw [← hP3] at hcu3 K3
            rw [← hP5] at hcu5 K5
            rw [← hP7] at hcu7 K7
            clear hP1 hP3 hP5 hP7
            by_cases e1 : q1 = 0
            · have b1 : (q1 != 0) = false := by rw [bne_eq_false_iff_eq]; exact e1
              by_cases e3 : q3 = 0
              · have b3 : (q3 != 0) = false := by rw [bne_eq_false_iff_eq]; exact e3
                by_cases e5 : q5 = vW
                · have b5 : (q5 != vW) = false := by rw [bne_eq_false_iff_eq]; exact e5
                  obtain ⟨b7, hb7⟩ : ∃ b, b = (q7 != vH) := ⟨_, rfl⟩
                  have B7 := hid hb7
                  have b7' : (q7 != vH) = b7 := hb7.symm
                  rw [b1, b3, b5, b7', Bool.false_or, Bool.false_or, Bool.false_or] at FIN
                  clear e1 e3 e5 hb7
                  go_quiet ((first | (go_at_call_of 22 P1; exact Calls.quiet_of (K1.out _)) | (go_at_call_of 22 P3; exact Calls.quiet_of (K3.out _)) | (go_at_call_of 22 P5; exact Calls.quiet_of (K5.out _)) | (go_at_call_of 22 P7; exact Calls.quiet_of (K7.out _))))
                  go_wp2_with fail
                  go_meet
                  exact ⟨by rw [FIN.out], _, rfl⟩
                · have b5 : (q5 != vW) = true := by rw [bne_iff_ne]; exact e5
                  rw [b1, b3, b5, Bool.false_or, Bool.false_or, Bool.true_or] at FIN
                  clear e1 e3 e5
                  go_quiet ((first | (go_at_call_of 22 P1; exact Calls.quiet_of (K1.out _)) | (go_at_call_of 22 P3; exact Calls.quiet_of (K3.out _)) | (go_at_call_of 22 P5; exact Calls.quiet_of (K5.out _)) | (go_at_call_of 22 P7; exact Calls.quiet_of (K7.out _))))
                  go_wp2_with fail
                  go_meet
                  exact ⟨by rw [FIN.out], _, rfl⟩
              · have b3 : (q3 != 0) = true := by rw [bne_iff_ne]; exact e3
                rw [b1, b3, Bool.false_or, Bool.true_or] at FIN
                clear e1 e3
                go_quiet ((first | (go_at_call_of 22 P1; exact Calls.quiet_of (K1.out _)) | (go_at_call_of 22 P3; exact Calls.quiet_of (K3.out _)) | (go_at_call_of 22 P5; exact Calls.quiet_of (K5.out _)) | (go_at_call_of 22 P7; exact Calls.quiet_of (K7.out _))))
                go_wp2_with fail
                go_meet
                exact ⟨by rw [FIN.out], _, rfl⟩
            · have b1 : (q1 != 0) = true := by rw [bne_iff_ne]; exact e1
              rw [b1, Bool.true_or] at FIN
              clear e1
              go_quiet ((first | (go_at_call_of 22 P1; exact Calls.quiet_of (K1.out _)) | (go_at_call_of 22 P3; exact Calls.quiet_of (K3.out _)) | (go_at_call_of 22 P5; exact Calls.quiet_of (K5.out _)) | (go_at_call_of 22 P7; exact Calls.quiet_of (K7.out _))))
              go_wp2_with fail
              go_meet
              exact ⟨by rw [FIN.out], _, rfl⟩
          case rest =>
            obtain ⟨rfl, z, hwz⟩ := hcut
            obtain ⟨w9, hw9⟩ : ∃ x : World, x = wc := ⟨_, rfl⟩
            rw [← hw9] at hwz ⊢
            have HQ9 := hid (show Qb w h nb q g (scC vW vH (.slice tA tn tc) false cl false 0) w9 ∧ TabN (w.heap.size + 4) w9 tA tn tc T0 from by rw [hwz]; exact ⟨HRQ.out.2.2.1.drewN z, HRQ.out.2.2.2⟩)
            clear hwz hw9 u0 u1 u2 u3 u4 u5 u6 uf z0 z1 z2 z3 z4 z5 z6 zf y0 y1 y2 y3 y4 y5 y6 yf K1 K3 K5 K7
            have HF9 := hid (show Fr No w w9 from HQ9.out.1.1.2.2.2)
            obtain ⟨u0, u1, u2, u3, u4, u5, u6, uf⟩ := blk7 HQ9.out.1.2
            obtain ⟨z0, z1, z2, z3, z4, z5, z6, zf⟩ := blk7 HQ9.out.1.1.1
            obtain ⟨y0, y1, y2, y3, y4, y5, y6, yf⟩ := blk7 HQ9.out.1.1.2.1
            cases bb with
            | true =>
              have HS := hid (show rScr o = no3 11 from by rw [HT10.out, if_pos (fun h => by have e := HBB.out; rw [decide_eq_true h] at e; cases e)])
              go_wp2_with fail
              refine ret_cell3 rfl (g := h) rfl rfl rfl (load_scr (set7 HQ9.out.1.1.1 _ _ _ _ _ _ _)) rfl ?_
              rw [HS.out]
              exact (HQ9.out.1.1).out _ HH.out.1
            | false =>
              have HT11 := HT10.out
              rw [if_neg (fun h => h (by have e := HBB.out; simpa using e.symm))] at HT11
              have HT11h := hid HT11
              clear HT11
              go_step
              go_step
              go_step
              go_step
              go_step
              show Code.wp Tryd.prog tail48 (bodyPost Tryd.prog Tryd.f9 (RetS w (rScr o))) _ _
              exact tail48_wp _ _ _ _ _ _ _ _ _ _ _ _ _ _ _ _ _ _ _ _ _ _ _ _ _ _ _ _ _ _ _ _ _ _ _ _ _ _ _ _ _ _ _ _ _ _ _ _ _ _ _ _ _ _ _ _ _ _ _ _ _ _ _ _ _ _ _ _ _ _ _ _ _ _ _ _ _ _ _ _ _ _ _ _ _ _ _ _ _ _ _ _ _ _ _ _ _ _ _ _ _ _ _ _ _ _ _ _ _ _ _ _ _ _ _ _ _ _ _ _ _ _ _ _ _ _ _ _ _ _ _ _ _ _ _ _ _ _ _ _ _ _ _ _ _ _ _ _ _ _ _ _ _ _ _ _ _ _ _ _ _ _ _ _ _ _ _ _ _ _ _ _ _ _ _ _ _ _ _ _ _ _ _ _ _ _ _ _ _ _ _ _ _ _ _ _ _ _ _ _ _ _ _ _ _ _ _ _ _ _ _ _ _ _ _ _ _ _ _ _ _ _ _ _ _ _ _ _ _ _ _ _ _ _ _ _ _ o n c w w9 h nb q g cl vW vH HN hl HH HG (some ad) ad rfl p T0 tA tn tc (by omega) hp1 HT11h (hid HRQ.out.2.1) HQ9
      · have h44' : ((x : Int) != 44) = true := by rw [bne_iff_ne]; omega
        have HS := hid (show rScr o = no3 3 from by rw [HTL.out]; unfold rTail; rw [if_neg HPN.out, if_neg (by rw [← HX.out]; exact h59), if_pos (by rw [← HX.out]; exact h44)])
        go_wp2_with fail
        refine ret_cell3 rfl (g := h) rfl rfl rfl (load_scr (set7 HRQ.out.2.2.1.1.1 _ _ _ _ _ _ _)) rfl ?_
        rw [HS.out]
        exact (HRQ.out.2.2.1.1).out _ HH.out.1
end Go.Proofs.YtamkfjbdcjkchaaDoor
