/-
  Trees, as values.
-/
import Derived.Test.YtfihodpdjpcpfaaIr
set_option linter.unusedSimpArgs false
set_option linter.unusedVariables false
set_option maxRecDepth 200000
set_option maxHeartbeats 4000000
namespace Go.Proofs.Ytfihodpdjpcpfaa
open Go.Ev

inductive T where
  | mk (kind : Int) (key value digest : List UInt8) (kids : List T)
namespace T
def kind : T → Int | .mk k _ _ _ _ => k
def key : T → List UInt8 | .mk _ a _ _ _ => a
def value : T → List UInt8 | .mk _ _ b _ _ => b
def digest : T → List UInt8 | .mk _ _ _ c _ => c
def kids : T → List T | .mk _ _ _ _ l => l
/-- Nothing. -/
def no : T := .mk 0 [] [] [] []
end T
theorem T_eta (t : T) : T.mk t.kind t.key t.value t.digest t.kids = t := by cases t; rfl
theorem T_ind {P : T → Prop} (h : ∀ t : T, (∀ k ∈ t.kids, P k) → P t) : ∀ t, P t
  | .mk k a b c l => h _ fun x hx => T_ind h x
termination_by t => SizeOf.sizeOf t
decreasing_by
  have := List.sizeOf_lt_of_mem hx
  simp only [T.kids] at this
  simp only [T.mk.sizeOf_spec]
  omega
mutual
/-- A tree's cells. -/
def T.cells : T → List C
  | .mk k a b c l => [.sc (.int .i64 k), .sl (eB a), .sl (eB b), .sl (eB c), .sl (eT l)]
/-- Trees, as elements. -/
def eT : List T → List (List C)
  | [] => []
  | t :: l => t.cells :: eT l
end
theorem cells_eq (t : T) : t.cells = [.sc (.int .i64 t.kind), .sl (eB t.key), .sl (eB t.value), .sl (eB t.digest), .sl (eT t.kids)] := by cases t; simp only [T.cells, T.kind, T.key, T.value, T.digest, T.kids]
theorem eT_map : ∀ l, eT l = l.map T.cells
  | [] => by simp only [eT, List.map_nil]
  | t :: l => by simp only [eT, List.map_cons, eT_map l]
theorem eT_nil : eT [] = [] := by simp only [eT]
theorem eT_len {l : List T} : (eT l).length = l.length := by simp [eT_map]
theorem eT_sz {l : List T} : szOk 5 (eT l) = true := by
  simp only [szOk, eT_map, List.all_map, List.all_eq_true, Function.comp]
  intro t _
  rw [cells_eq]
  rfl
theorem eT_get {l : List T} {i : Nat} (h : i < l.length) : (eT l)[i]? = some (l.getD i .no).cells := by
  simp [eT_map, List.getD, h]
theorem eT_app {a b : List T} : eT a ++ eT b = eT (a ++ b) := by simp [eT_map]
theorem eT_one {t : T} : [t.cells] = eT [t] := by simp [eT_map]
theorem eT_cons {t : T} {l : List T} : t.cells :: eT l = eT (t :: l) := by simp [eT_map]
theorem eT_take {l : List T} {n : Nat} : (eT l).take n = eT (l.take n) := by simp [eT_map]
theorem eT_drop {l : List T} {n : Nat} : (eT l).drop n = eT (l.drop n) := by simp [eT_map]
/-- A tree, as a value. -/
abbrev avT (t : T) : AV := .agg [i64 t.kind, .sl true (eB t.key), .sl true (eB t.value), .sl true (eB t.digest), .sl true (eT t.kids)]
abbrev oT (t : T) : Ev.Obj := .var [i64 t.kind, .sl true (eB t.key), .sl true (eB t.value), .sl true (eB t.digest), .sl true (eT t.kids)]
theorem cells_of {o : Bool} {t : T} : ofCs o true t.cells = some (.agg [i64 t.kind, .sl o (eB t.key), .sl o (eB t.value), .sl o (eB t.digest), .sl o (eT t.kids)]) := by rw [cells_eq]; rfl
theorem cells_to {k : Int} {a b c : List UInt8} {l : List T} : [C.sc (.int .i64 k), .sl (eB a), .sl (eB b), .sl (eB c), .sl (eT l)] = T.cells (.mk k a b c l) := by simp only [T.cells]
theorem cells_map {o : Bool} {t : T} : t.cells.map (ofC o) = [i64 t.kind, .sl o (eB t.key), .sl o (eB t.value), .sl o (eB t.digest), .sl o (eT t.kids)] := by rw [cells_eq]; rfl
theorem cells_take {t : T} : t.cells.take 5 = t.cells := by rw [cells_eq]; rfl
theorem cells_len {t : T} : t.cells.length = 5 := by rw [cells_eq]; rfl
theorem T_kind {k : Int} {a b c : List UInt8} {l : List T} : (T.mk k a b c l).kind = k := rfl
theorem T_key {k : Int} {a b c : List UInt8} {l : List T} : (T.mk k a b c l).key = a := rfl
theorem T_value {k : Int} {a b c : List UInt8} {l : List T} : (T.mk k a b c l).value = b := rfl
theorem T_digest {k : Int} {a b c : List UInt8} {l : List T} : (T.mk k a b c l).digest = c := rfl
theorem T_kids {k : Int} {a b c : List UInt8} {l : List T} : (T.mk k a b c l).kids = l := rfl
attribute [go_sem] eT_len eT_sz eT_get eT_app cells_of cells_map cells_take cells_len
/-! ### Trees of which all is told -/
mutual
def T.full : T → Bool
  | .mk k _ _ _ l => if 1 < k then false else fullL l
def fullL : List T → Bool
  | [] => true
  | t :: l => t.full && fullL l
end
theorem full_eq (t : T) : t.full = if 1 < t.kind then false else fullL t.kids := by cases t; simp only [T.full]; rfl
/-! ### How much a tree is -/
mutual
def T.size : T → Nat
  | .mk _ a b c l => 1 + a.length + b.length + c.length + sizeL l
def sizeL : List T → Nat
  | [] => 0
  | t :: l => t.size + sizeL l
end
theorem size_eq (t : T) : t.size = 1 + t.key.length + t.value.length + t.digest.length + sizeL t.kids := by cases t; simp only [T.size]; rfl
theorem sizeL_len : ∀ l : List T, l.length ≤ sizeL l
  | [] => by simp [sizeL]
  | t :: l => by
    have := sizeL_len l
    have := size_eq t
    simp only [List.length_cons, sizeL]
    omega
theorem sizeL_mem : ∀ {l : List T} {t : T}, t ∈ l → t.size ≤ sizeL l
  | k :: l, t, h => by
    rw [sizeL]
    rcases List.mem_cons.mp h with h | h
    · subst h; omega
    · have := sizeL_mem h; omega
theorem size_kid {t k : T} (h : k ∈ t.kids) : k.size < t.size := by
  have := sizeL_mem h
  have := size_eq t
  omega
theorem kids_len (t : T) : t.kids.length < t.size := by
  have := sizeL_len t.kids
  have := size_eq t
  omega
/-! ### Trees that are too deep -/
mutual
def T.deep : T → Int → Bool
  | .mk k _ _ _ l, b => if (k = 1 ∨ k = 2 ∨ 0 < l.length) ∧ b = 0 then true else deepL l (b - 1)
def deepL : List T → Int → Bool
  | [], _ => false
  | t :: l, b => t.deep b || deepL l b
end
theorem deep_eq (t : T) (b : Int) : t.deep b = if (t.kind = 1 ∨ t.kind = 2 ∨ 0 < t.kids.length) ∧ b = 0 then true else deepL t.kids (b - 1) := by cases t; simp only [T.deep]; rfl
end Go.Proofs.Ytfihodpdjpcpfaa
