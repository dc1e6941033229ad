/- Rasters, as they are handed over, and what is asked of them. -/
import Derived.Test.YtdbbkdlocmafgaaPx2
namespace Go.Proofs.Ytdbbkdlocmafgaa
open Go.RowKit Go.Proofs.HK
set_option linter.unusedVariables false
set_option linter.unusedSimpArgs false

abbrev Tin := UInt8 × UInt8 × UInt8
def tinC (t : Tin) : List Value := [B t.1, B t.2.1, B t.2.2]
def tinsC (l : List Tin) : List Value := l.flatMap tinC
structure RS where
  W : Int
  H : Int
  C : Int
  D : Int
  L : Bool
  tA : Option Addr
  ts : List Tin
  tc : Nat
  aA : Option Addr
  al : List Int
  ac : Nat
  cA : Option Addr
  cl : List Int
  cc : Nat
  sA : Option Addr
  sa : List Int
  sc : Nat
def RS.cs (r : RS) : List Value := [.int .i64 r.W, .int .i64 r.H, .int .i64 r.C, .int .i64 r.D, .bool r.L, .slice r.tA r.ts.length r.tc, .slice r.aA r.al.length r.ac, .slice r.cA r.cl.length r.cc, .slice r.sA r.sa.length r.sc]
def RS.v (r : RS) : Value := .agg r.cs.toArray
structure RS.ok (w : World) (r : RS) : Prop where
  t : Cells w r.tA (tinsC r.ts)
  a : Rd II w r.aA r.al
  c : Rd II w r.cA r.cl
  s : Rd II w r.sA r.sa
  tcap : r.ts.length ≤ r.tc
  acap : r.al.length ≤ r.ac
  ccap : r.cl.length ≤ r.cc
  scap : r.sa.length ≤ r.sc
  tl : r.ts.length ≤ 300
  al : r.al.length ≤ 300
  cl : r.cl.length ≤ 10
  sl : r.sa.length ≤ 5000
theorem RS.ok.fr {w w' : World} {r : RS} (h : r.ok w) (hf : Fr No w w') : r.ok w' :=
  ⟨h.t.fr hf (fun _ _ h => h), h.a.fr0 hf, h.c.fr0 hf, h.s.fr0 hf, h.tcap, h.acap, h.ccap, h.scap, h.tl, h.al, h.cl, h.sl⟩
/-- What tables answers. -/
def tabS (r : RS) : Int :=
  if mayS r.W r.H r.C r.D = false then 11
  else if r.C = 3 then (if 0 < r.ts.length ∧ (r.ts.length : Int) ≤ 2 ^ r.D.toNat ∧ r.al.length ≤ r.ts.length ∧ witB r.al 255 = true ∧ r.cl.length = 0 then 0 else 12)
  else (if r.ts.length + r.al.length = 0 ∧ witB r.cl (2 ^ r.D.toNat - 1) = true ∧ (r.cl.length = 0 ∨ r.C < 3 ∧ (r.cl.length : Int) = samS r.C) then 0 else 12)
/-- What look answers. -/
def lookS (r : RS) (xs : List Int) (n : Int) : Int :=
  if (xs.length : Int) ≠ n ∨ witB xs (2 ^ r.D.toNat - 1) = false then 1
  else if r.C = 3 ∧ witB xs ((r.ts.length : Int) - 1) = false then 14 else 0
theorem may_facts {W H C D : Int} (h : mayS W H C D = true) : 0 < W ∧ 0 < H ∧ W ≤ 2048 ∧ H ≤ 2048 ∧ W * H ≤ 65536 ∧ (C = 0 ∨ C = 2 ∨ C = 3 ∨ C = 4 ∨ C = 6) ∧ (D = 1 ∨ D = 2 ∨ D = 4 ∨ D = 8 ∨ D = 16) ∧ 1 ≤ samS C ∧ samS C ≤ 4 := by
  obtain ⟨h1, h2, h3, h4, h5, h6⟩ := of_decide_eq_true h
  refine ⟨h1, h2, h3, h4, h5, ?_⟩
  unfold depL at h6
  unfold samS
  split at h6
  · rename_i e; subst e; simp at h6; simp; omega
  split at h6
  · rename_i e; subst e; simp at h6; simp; omega
  split at h6
  · rename_i e; subst e; simp at h6; simp; omega
  split at h6
  · rename_i e; subst e; simp at h6; simp; omega
  split at h6
  · rename_i e; subst e; simp at h6; simp; omega
  · simp at h6
theorem blk9 {W : World} {g : Nat} {v0 v1 v2 v3 v4 v5 v6 v7 v8 : Value} {t : TypeId} (hb : W.heap[g]? = some (.cells #[v0, v1, v2, v3, v4, v5, v6, v7, v8] t (0, 0))) :
    W.cell? ⟨g, 0, none⟩ = some v0 ∧ W.cell? ⟨g, 1, none⟩ = some v1 ∧ W.cell? ⟨g, 2, none⟩ = some v2 ∧ W.cell? ⟨g, 3, none⟩ = some v3 ∧ W.cell? ⟨g, 4, none⟩ = some v4 ∧ W.cell? ⟨g, 5, none⟩ = some v5 ∧ W.cell? ⟨g, 6, none⟩ = some v6 ∧ W.cell? ⟨g, 7, none⟩ = some v7 ∧ W.cell? ⟨g, 8, none⟩ = some v8 := by
  simp [World.cell?, hb]
theorem blk5c {W : World} {g : Nat} {v0 v1 v2 v3 v4 : Value} {t : TypeId} (hb : W.heap[g]? = some (.cells #[v0, v1, v2, v3, v4] t (0, 0))) :
    W.cell? ⟨g, 0, none⟩ = some v0 ∧ W.cell? ⟨g, 1, none⟩ = some v1 ∧ W.cell? ⟨g, 2, none⟩ = some v2 ∧ W.cell? ⟨g, 3, none⟩ = some v3 ∧ W.cell? ⟨g, 4, none⟩ = some v4 := by
  simp [World.cell?, hb]
end Go.Proofs.Ytdbbkdlocmafgaa
