/- The table of forms: a map of five kinds, made anew by each call. -/
import Derived.Test.YtamkfjbdcjkchaaOct
import Derived.Maps.Own
import Derived.MapKept
import Derived.ChangeMaps4
namespace Go.Proofs.HK
open Go.RowKit Go.ChangeMaps

section
variable {P : Program} {t k e : TypeId} {w : World} {b : Nat} {es : Array MapEntry} {cl : Nat}
theorem run_ins (ht : P.underlying t = some (.map k e)) (hk : P.underlying k = some (.int .i64)) (hb : w.heap[b]? = some (.map es cl)) (n : Int) (val : Value)
    (hf : Instr.findNow (.int .i64) (.int .i64 n) es.toList 0 = some none) :
    (Instr.mapUpdate t (.map (some b)) (.int .i64 n) val).run P w = .ok () (setBlock w b (.map (es.push ⟨.int .i64 n, val, cl⟩) (cl + 1))) := by
  have hc : (Instr.checkKey false 10000 k (.int .i64 n)).run P w = .ok () w := MapKept.run_checkKey (k := .int .i64 n) hk (by simp [MapKept.IsKey]) false 9999
  simp [Instr.mapUpdate, run_underlying ht, MapKept.run_getObj_map hb, hc, MapKept.run_findKey hk hf, MapKept.run_setObj_map _ hb, Result.andThen, setBlock]
theorem run_look_yes (ht : P.underlying t = some (.map k e)) (hk : P.underlying k = some (.int .i64)) (hb : w.heap[b]? = some (.map es cl)) (n : Int) (val : Value) (i : Nat)
    (hf : Instr.findNow (.int .i64) (.int .i64 n) es.toList 0 = some (some (i, val))) :
    (Instr.lookup t (.map (some b)) (.int .i64 n) true).run P w = .ok (.tuple #[val, .bool true]) w := by
  have hc : (Instr.checkKey es.isEmpty 10000 k (.int .i64 n)).run P w = .ok () w := MapKept.run_checkKey (k := .int .i64 n) hk (by simp [MapKept.IsKey]) _ 9999
  simp [Instr.lookup, run_underlying ht, MapKept.run_getObj_map hb, hc, MapKept.run_findKey hk hf, Result.andThen]
theorem run_look_no (ht : P.underlying t = some (.map k e)) (hk : P.underlying k = some (.int .i64)) (hb : w.heap[b]? = some (.map es cl)) (n : Int) (z : Value) (hz : (zeroValue e).run P w = .ok z w)
    (hf : Instr.findNow (.int .i64) (.int .i64 n) es.toList 0 = some none) :
    (Instr.lookup t (.map (some b)) (.int .i64 n) true).run P w = .ok (.tuple #[z, .bool false]) w := by
  have hc : (Instr.checkKey es.isEmpty 10000 k (.int .i64 n)).run P w = .ok () w := MapKept.run_checkKey (k := .int .i64 n) hk (by simp [MapKept.IsKey]) _ 9999
  simp [Instr.lookup, run_underlying ht, MapKept.run_getObj_map hb, hc, MapKept.run_findKey hk hf, hz, Result.andThen]
theorem setBlock_setBlock (w : World) (b : Nat) (o o' : Obj) : setBlock (setBlock w b o) b o' = setBlock w b o' := by
  simp [setBlock]
theorem heap_setB (w : World) (b : Nat) (o : Obj) (h : b < w.heap.size) : (setBlock w b o).heap[b]? = some o := by simp [setBlock, h]
theorem fr_setB (w : World) (b : Nat) (o : Obj) : Fr (One b) w (setBlock w b o) :=
  ⟨rfl, rfl, rfl, by simp [setBlock], fun k hk hn => by simp [setBlock]; rw [Array.getElem?_setIfInBounds_ne (fun e => hn e.symm)]⟩
theorem wpList_ins {ops : Array Oper} {rest : List Oper} {o : Oper} {a : Act} {Q : Exit → Act → World → Prop}
    (hg : o.guard = none) (m x v : Operand) (hop : o.op = Op.insert t m x v) (ht : P.underlying t = some (.map k e)) (hk : P.underlying k = some (.int .i64)) (n : Int) (val : Value)
    (hm : a.eval m = .map (some b)) (hx : a.eval x = .int .i64 n) (hv : a.eval v = val) (hb : w.heap[b]? = some (.map es cl)) (hf : Instr.findNow (.int .i64) (.int .i64 n) es.toList 0 = some none)
    (hK : ∀ w', w' = setBlock w b (.map (es.push ⟨.int .i64 n, val, cl⟩) (cl + 1)) → wpList P ops Q rest (a.put o.dst undef) w') :
    wpList P ops Q (o :: rest) a w := by
  refine wpList_plain hg fun K' hK' => ?_
  have hrun := run_ins ht hk hb n val hf
  unfold Oper.wp
  simp [execOp, hop, hm, hx, hv, hrun, Result.andThen]
  exact hK' _ _ (hK _ rfl)
end
end Go.Proofs.HK
namespace Go.Proofs.Ytamkfjbdcjkchaa
open Go.RowKit Go.Proofs.HK Go.ChangeMaps
set_option linter.unusedVariables false
set_option linter.unusedSimpArgs false

def fnV (f : FuncId) : Value := .func (.func f) #[] #[]
def ent (k : Int) (f g : FuncId) (b : Nat) : MapEntry := ⟨.int .i64 k, .agg #[fnV f, fnV g], b⟩
def kindIn (k : Int) : Bool := decide (1 ≤ k ∧ k ≤ 5)
def formsM : Array MapEntry := #[ent 1 39 40 0, ent 2 41 42 1, ent 3 43 44 2, ent 4 46 47 3, ent 5 48 49 4]
theorem mapU : Try.prog.underlying 46 = some (.map 3 44) := Try.underlying46
/-- The k-th insertion, as an equation of its own. -/
theorem ins_step {W : World} {g : Nat} {es : Array MapEntry} {cl : Nat} (hb : W.heap[g]? = some (.map es cl)) (n : Int) (val : Value) (hf : Instr.findNow (.int .i64) (.int .i64 n) es.toList 0 = some none) :
    ∃ W', (Instr.mapUpdate 46 (.map (some g)) (.int .i64 n) val).run Try.prog W = .ok () W' ∧ W'.heap[g]? = some (.map (es.push ⟨.int .i64 n, val, cl⟩) (cl + 1)) ∧ Fr (One g) W W' :=
  ⟨_, run_ins mapU Try.underlying3 hb n val hf, heap_setB _ _ _ (Array.getElem?_eq_some_iff.1 hb).1, fr_setB _ _ _⟩
set_option maxRecDepth 100000 in
theorem forms_calls (w : World) : Calls Try.prog 17 #[] w fun e w' => ∃ b, e = .returned (.map (some b)) ∧ w'.heap[b]? = some (.map formsM 5) ∧ w.heap.size ≤ b ∧ Fr No w w' := by
  have hmm := @run_makeMap Try.prog
  have hb0 : (w.alloc (.map #[] 0)).heap[w.heap.size]? = some (.map #[] 0) := heap_new _ _
  obtain ⟨W1, r1, hb1, hf1⟩ := ins_step hb0 1 (.agg #[.func (.func 39) #[] #[], .func (.func 40) #[] #[]]) rfl
  obtain ⟨W2, r2, hb2, hf2⟩ := ins_step hb1 2 (.agg #[.func (.func 41) #[] #[], .func (.func 42) #[] #[]]) rfl
  obtain ⟨W3, r3, hb3, hf3⟩ := ins_step hb2 3 (.agg #[.func (.func 43) #[] #[], .func (.func 44) #[] #[]]) rfl
  obtain ⟨W4, r4, hb4, hf4⟩ := ins_step hb3 4 (.agg #[.func (.func 46) #[] #[], .func (.func 47) #[] #[]]) rfl
  obtain ⟨W5, r5, hb5, hf5⟩ := ins_step hb4 5 (.agg #[.func (.func 48) #[] #[], .func (.func 49) #[] #[]]) rfl
  have hF : Fr No w W5 := by
    have h := (((hf1.then hf2).then hf3).then hf4).then hf5
    exact ((Fr.refl No w).alloc _).trans h (fun k hk e => by have e : k = w.heap.size := e; omega)
  have H := hid (And.intro hb5 hF)
  clear hb0 hb1 hb2 hb3 hb4 hb5 hf1 hf2 hf3 hf4 hf5 hF
  go_enter Try.func17, Try.ntmps17
  go_wp2_with fail
  go_ret
  exact ⟨_, rfl, H.out.1, Nat.le_refl _, H.out.2⟩
/-- What a look into the table finds. -/
def formAt (n : Int) : Option (FuncId × FuncId) :=
  if n = 1 then some (39, 40) else if n = 2 then some (41, 42) else if n = 3 then some (43, 44)
  else if n = 4 then some (46, 47) else if n = 5 then some (48, 49) else none
theorem look_forms {W : World} {g : Nat} (hb : W.heap[g]? = some (.map formsM 5)) (n : Int) (f h : FuncId) (hn : formAt n = some (f, h)) :
    (Instr.lookup 46 (.map (some g)) (.int .i64 n) true).run Try.prog W = .ok (.tuple #[.agg #[.func (.func f) #[] #[], .func (.func h) #[] #[]], .bool true]) W := by
  unfold formAt at hn
  split at hn
  · rename_i e; subst e; injection hn with hn; injection hn with h1 h2; subst h1; subst h2; exact run_look_yes mapU Try.underlying3 hb 1 _ 0 rfl
  split at hn
  · rename_i e; subst e; injection hn with hn; injection hn with h1 h2; subst h1; subst h2; exact run_look_yes mapU Try.underlying3 hb 2 _ 1 rfl
  split at hn
  · rename_i e; subst e; injection hn with hn; injection hn with h1 h2; subst h1; subst h2; exact run_look_yes mapU Try.underlying3 hb 3 _ 2 rfl
  split at hn
  · rename_i e; subst e; injection hn with hn; injection hn with h1 h2; subst h1; subst h2; exact run_look_yes mapU Try.underlying3 hb 4 _ 3 rfl
  split at hn
  · rename_i e; subst e; injection hn with hn; injection hn with h1 h2; subst h1; subst h2; exact run_look_yes mapU Try.underlying3 hb 5 _ 4 rfl
  cases hn
theorem zero_form (W : World) : (zeroValue 44).run Try.prog W = .ok (.agg #[.nilFunc, .nilFunc]) W := by kernel_rfl
theorem look_forms_no {W : World} {g : Nat} (hb : W.heap[g]? = some (.map formsM 5)) (n : Int) (hn : kindIn n = false) :
    (Instr.lookup 46 (.map (some g)) (.int .i64 n) true).run Try.prog W = .ok (.tuple #[.agg #[.nilFunc, .nilFunc], .bool false]) W := by
  refine run_look_no mapU Try.underlying3 hb n _ (zero_form W) ?_
  have h := of_decide_eq_false hn
  have h1 : (n == 1) = false := by simp; omega
  have h2 : (n == 2) = false := by simp; omega
  have h3 : (n == 3) = false := by simp; omega
  have h4 : (n == 4) = false := by simp; omega
  have h5 : (n == 5) = false := by simp; omega
  simp [formsM, ent, Instr.findNow, Instr.sameNow, h1, h2, h3, h4, h5]
end Go.Proofs.Ytamkfjbdcjkchaa
