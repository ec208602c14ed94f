/-
  Functions that are known by their contracts: 'errors.As' and 'errors.Is' at a spot.
-/
import Derived.Test.YtdngljdbgepaiaaGreatDoorOk
import Derived.Test.YtdngljdbgepaiaaGreatDoorEvE
import Derived.Test.YtdngljdbgepaiaaGreatDoorJAs
import Derived.Test.YtdngljdbgepaiaaGreatDoorJIs
set_option linter.unusedSimpArgs false
set_option linter.unusedVariables false
set_option maxRecDepth 200000
set_option maxHeartbeats 4000000
namespace Go.Proofs.YtdngljdbgepaiaaGreatDoor
open Go.Ev

theorem mk_made {w : World} {arr : Array Value} {e : TypeId} : Made w (w.alloc (.cells arr e (0, 0))) arr e (0, 0) := ⟨rfl, rfl, rfl, rfl⟩
theorem wrote_cell {w : World} {g i : Nat} {cs : Array Value} {e : TypeId} {v : Value} (hg : w.heap[g]? = some (.cells cs e (0, 0))) : Wrote w (w.setCell ⟨g, i, none⟩ v) g (cs.setIfInBounds i v) e :=
  ⟨by simp, heap_setCell_same w g i cs e v hg, fun b hb => heap_setCell_other w ⟨g, i, none⟩ b v hb, rfl, rfl, rfl⟩
/-- A block that nobody tells of. -/
theorem junk {G : Cf} {x : Cx} {h : Heap} (hi : Inv G x h) (arr : Array Value) (e : TypeId) : ∃ x' : Cx, x'.w = x.w.alloc (.cells arr e (0, 0)) ∧ x'.φ = x.φ ∧ x'.κ = x.κ ∧ x'.B0 = x.B0 ∧ Inv G x' h ∧ Step (fun _ => True) x h x' h :=
  ⟨x.lay _ 0, rfl, rfl, rfl, rfl, hi.lay mk_made 0, Step.lay mk_made hi.sh 0⟩
theorem glob_e {x : Cx} {h : Heap} (hi : Inv G0 x h) : x.w.cell? ⟨0, 0, none⟩ = some (.iface 105 (.agg #[.pointer (some ⟨3, 30, none⟩)])) := by
  obtain ⟨_, v, h2, h3⟩ := hi.glob 0 0 (.sc (.iface 105 (.agg #[.pointer (some ⟨3, 30, none⟩)]))) rfl
  cases h3 with
  | sc v hv => exact h2
theorem var_cell {G : Cf} {x : Cx} {h : Heap} (hi : Inv G x h) {id : Nat} {cells : List AV} (hg : getO h id = some (.var cells)) {i : Nat} {v : Value} (hc : cells[i]? = some (.s v)) : x.w.cell? ⟨x.φ id, i, none⟩ = some v ∧ x.w.frozen? ⟨x.φ id, i, none⟩ = false ∧ ∃ arr e, x.w.heap[x.φ id]? = some (.cells arr e (0, 0)) ∧ arr.size = cells.length := by
  obtain ⟨arr, e, h1, h2, h3⟩ := hi.obj id _ hg
  obtain ⟨u, h4, _, h5⟩ := h3 i _ hc
  have := h5.s_inv
  subst this
  exact ⟨by simp [World.cell?, h1, h4], by simp [World.frozen?, h1], arr, e, h1, h2⟩
theorem as_ok (i d : Int) : Contract Tryz.prog G0 29 [.ifc 58 (.ptr 0 0), .ifc 71 (.ptr 1 0)] [.var [.s (.int .i64 i), .s (.iface 42 (.int .i64 d))], .var [.s (.pointer none)]] [.s (.bool true)] [.var [.s (.int .i64 i), .s (.iface 42 (.int .i64 d))], .var [.ptr 0 0]] := by
  intro x vals hB hi hal har hlv
  match vals, hal with
  | [v0, v1], _ =>
    have g0 : getO ([Obj.var [.s (.int .i64 i), .s (.iface 42 (.int .i64 d))], .var [.s (.pointer none)]].map some) 0 = some (.var [.s (.int .i64 i), .s (.iface 42 (.int .i64 d))]) := rfl
    have g1 : getO ([Obj.var [.s (.int .i64 i), .s (.iface 42 (.int .i64 d))], .var [.s (.pointer none)]].map some) 1 = some (.var [.s (.pointer none)]) := rfl
    generalize hh : [Obj.var [.s (.int .i64 i), .s (.iface 42 (.int .i64 d))], .var [.s (.pointer none)]].map some = h at *
    obtain ⟨u0, rfl, r0⟩ := ifc_inv (har 0 _ v0 rfl rfl)
    obtain ⟨u1, rfl, r1⟩ := ifc_inv (har 1 _ v1 rfl rfl)
    obtain rfl := ptr_inv r0 g0
    obtain rfl := ptr_inv r1 g1
    obtain ⟨c1, f1, arr, et, k1, k2⟩ := var_cell hi g1 (i := 0) rfl
    refine (as_hit ⟨x.φ 0, 0, none⟩ ⟨x.φ 1, 0, none⟩ (.pointer none) x.w (glob_e hi) c1 f1).mono fun ev w' ⟨he, hw⟩ => ⟨[.bool true], he, ?_⟩
    have hne : ∀ {y z : Nat}, x.φ 0 = x.φ 1 → False := fun {y z} hp => by
      have := hi.inj 0 1 _ _ g0 g1 (by simp) (by simp) hp
      cases this
    -- four blocks
    obtain ⟨x1, w1, p1, q1, b1, i1, s1⟩ := junk hi #[.pointer (some ⟨x.φ 1, 0, none⟩)] 71
    obtain ⟨x2, w2, p2, q2, b2, i2, s2⟩ := junk i1 #[.pointer (some ⟨3, 71, none⟩), .pointer (some ⟨x.w.heap.size, 0, none⟩), .int .u64 150] 86
    obtain ⟨x3, w3, p3, q3, b3, i3, s3⟩ := junk i2 #[.pointer (some ⟨3, 71, none⟩), .pointer (some ⟨x.w.heap.size, 0, none⟩), .int .u64 150] 86
    obtain ⟨x4, w4, p4, q4, b4, i4, s4⟩ := junk i3 #[.pointer (some ⟨x.φ 0, 0, none⟩)] 58
    have hφ : x4.φ = x.φ := p4.trans (p3.trans (p2.trans p1))
    have hst := ((s1.trans s2).trans s3).trans s4
    have hl1 : x.φ 1 < x.w.heap.size := block_lt hi g1 (by simp)
    have k4 : x4.w.heap[x4.φ 1]? = some (.cells arr et (0, 0)) := by
      have l1 : x1.w.heap.size = x.w.heap.size + 1 := by rw [w1, World.alloc, Array.size_push]
      have l2 : x2.w.heap.size = x1.w.heap.size + 1 := by rw [w2, World.alloc, Array.size_push]
      have l3 : x3.w.heap.size = x2.w.heap.size + 1 := by rw [w3, World.alloc, Array.size_push]
      have o : ∀ (w : World) (o : Go.Obj) (b : Nat), b < w.heap.size → (w.alloc o).heap[b]? = w.heap[b]? := fun w o b hb => by
        rw [World.alloc, Array.getElem?_push, if_neg (Nat.ne_of_lt hb)]
      rw [hφ, w4, o _ _ _ (by omega), w3, o _ _ _ (by omega), w2, o _ _ _ (by omega), w1, o _ _ _ (by omega)]
      exact k1
    have ho : h[1]? = some (some (.var [.s (.pointer none)])) := by rw [← hh]; rfl
    have hw5 : w' = x4.w.setCell ⟨x4.φ 1, 0, none⟩ (.pointer (some ⟨x.φ 0, 0, none⟩)) := by
      rw [hw, w4, w3, w2, w1, hφ]
    have hout : [Obj.var [.s (.int .i64 i), .s (.iface 42 (.int .i64 d))], .var [.ptr 0 0]].map some = h.set 1 (some (.var [.ptr 0 0])) := by rw [← hh]; rfl
    have g4 : getO h 1 = some (.var [.s (.pointer none)]) := g1
    have hlt : 1 < h.length := by rw [← hh]; simp
    have hwr := wrote_cell (i := 0) (v := .pointer (some ⟨x.φ 0, 0, none⟩)) k4
    have gs : getO (h.set 1 (some (.var [.ptr 0 0]))) 0 = some (.var [.s (.int .i64 i), .s (.iface 42 (.int .i64 d))]) := by
      rw [getO_set hlt, if_neg (by decide)]; exact g0
    have hev : Evo x4 h { x4 with w := x4.w.setCell ⟨x4.φ 1, 0, none⟩ (.pointer (some ⟨x.φ 0, 0, none⟩)) } (h.set 1 (some (.var [.ptr 0 0]))) 1 := by
      refine ⟨fun cs _ => ⟨⟨_, g4⟩, rfl⟩, fun e s o f l hl => ?_⟩
      rw [getO_set hlt, if_pos rfl] at hl
      simp at hl
    have hsz : arr.size = 1 := k2
    have hrel : ObjRel { x4 with w := x4.w.setCell ⟨x4.φ 1, 0, none⟩ (.pointer (some ⟨x.φ 0, 0, none⟩)) } (h.set 1 (some (.var [.ptr 0 0]))) 1 (.var [.ptr 0 0]) := by
      refine ⟨arr.setIfInBounds 0 (.pointer (some ⟨x.φ 0, 0, none⟩)), et, hwr.new, by simp [hsz], fun j b hb => ?_⟩
      match j, hb with
      | 0, hb =>
        simp only [List.getElem?_cons_zero, Option.some.injEq] at hb
        subst hb
        refine ⟨.pointer (some ⟨x.φ 0, 0, none⟩), by simp [hsz], rfl, .ptr 0 0 _ trivial fun cs _ => ?_⟩
        show Value.pointer (some ⟨x.φ 0, 0, none⟩) = .pointer (some ⟨x4.φ 0, 0, none⟩)
        rw [hφ]
      | j + 1, hb => simp at hb
    have hinv5 := i4.write hwr g4 trivial hev hrel (by
      intro j hj
      simp only [Obj.refs, refsL, AV.refs, List.append_nil, List.mem_singleton] at hj
      subst hj
      rw [gs]; rfl)
    have hst5 := Step.write i4 hwr g4 trivial hev
    refine ⟨{ x4 with w := x4.w.setCell ⟨x4.φ 1, 0, none⟩ (.pointer (some ⟨x.φ 0, 0, none⟩)) }, hw5.symm, ?_⟩
    refine ⟨by rw [hout]; exact hinv5, by rw [hh, hout]; exact hst.trans hst5, rfl, fun j b u hb hu => ?_, fun id hid => ?_⟩
    · match j, hb, hu with
      | 0, hb, hu =>
        simp only [List.getElem?_cons_zero, Option.some.injEq] at hb hu
        subst hb hu
        exact .s _
      | j + 1, hb, _ => simp at hb
    · simp [refsL, AV.refs] at hid
theorem is_ok (i d : Int) : Contract Tryz.prog G0 30 [.ifc 58 (.ptr 0 0), .s (.iface 42 (.int .i64 d))] [.var [.s (.int .i64 i), .s (.iface 42 (.int .i64 d))]] [.s (.bool true)] [.var [.s (.int .i64 i), .s (.iface 42 (.int .i64 d))]] := by
  intro x vals hB hi hal har hlv
  match vals, hal with
  | [v0, v1], _ =>
    have g0 : getO ([Obj.var [.s (.int .i64 i), .s (.iface 42 (.int .i64 d))]].map some) 0 = some (.var [.s (.int .i64 i), .s (.iface 42 (.int .i64 d))]) := rfl
    obtain ⟨u0, rfl, r0⟩ := ifc_inv (har 0 _ v0 rfl rfl)
    obtain rfl := (har 1 _ v1 rfl rfl).s_inv
    obtain rfl := ptr_inv r0 g0
    obtain ⟨c1, _⟩ := var_cell hi g0 (i := 1) rfl
    refine (is_hit (x.φ 0) 0 d x.w c1).mono fun ev w' ⟨he, hw⟩ => ⟨[.bool true], he, x, hw.symm, hi, Step.refl _ _ _, rfl, fun j b u hb hu => ?_, fun id hid => ?_⟩
    · match j, hb, hu with
      | 0, hb, hu =>
        simp only [List.getElem?_cons_zero, Option.some.injEq] at hb hu
        subst hb hu
        exact .s _
      | j + 1, hb, _ => simp at hb
    · simp [refsL, AV.refs] at hid
theorem xok : XOk Tryz.prog G0 where
  ok := fun f args ins rs outs he => by
    change xJ f args ins = _ at he
    unfold xJ at he
    split at he
    · rename_i hf
      subst hf
      split at he
      · rename_i i d
        simp only [Option.some.injEq, Prod.mk.injEq] at he
        obtain ⟨rfl, rfl⟩ := he
        exact as_ok i d
      · simp at he
    · split at he
      · rename_i hf
        subst hf
        split at he
        · rename_i c i d
          split at he
          · rename_i hcd
            subst hcd
            simp only [Option.some.injEq, Prod.mk.injEq] at he
            obtain ⟨rfl, rfl⟩ := he
            exact is_ok i c
          · simp at he
        · simp at he
      · simp at he
  enters := fun f args ins r he => by
    change xJ f args ins = _ at he
    unfold xJ at he
    split at he
    · rename_i hf
      subst hf
      obtain ⟨c, hc⟩ : ∃ c, Tryz.f29.body = some c := Option.isSome_iff_exists.1 (by kernel_rfl)
      exact ⟨Tryz.f29, c, Tryz.func29, by kernel_rfl, hc⟩
    · split at he
      · rename_i hf
        subst hf
        obtain ⟨c, hc⟩ : ∃ c, Tryz.f30.body = some c := Option.isSome_iff_exists.1 (by kernel_rfl)
        exact ⟨Tryz.f30, c, Tryz.func30, by kernel_rfl, hc⟩
      · simp at he

end Go.Proofs.YtdngljdbgepaiaaGreatDoor
