/-
  append; a row that is cut; freezing.
-/
import Derived.Test.YtebiajdkgpcidaaEvOps6
set_option linter.unusedSimpArgs false
set_option linter.unusedVariables false
namespace Go.Ev
section
variable {P : Program} {G : Cf} {x : Cx} {st : St} {a : Act}

/-- What is appended: its elements' cells can be read in each world of this memory. -/
structure Src (P : Program) (w : World) (sz : Nat) (u : Value) (m : Nat) (news : List Value) : Prop where
  len : ∀ w' : World, (Builtin.lenOf u).run P w' = .ok m w'
  first : ∀ w' : World, w'.heap = w.heap → (Builtin.firstCells sz m u).run P w' = .ok news.toArray w'

structure TElem (P : Program) (e : TypeId) (sz bytes : Nat) (zs : List Value) : Prop where
  zero : TZero P e zs
  size : TSize P e sz
  bytes : (P.info? e).map (·.bytes) = some bytes
  len : zs.length = sz
  pos : 0 < sz

theorem TElem.info {e : TypeId} {sz bytes : Nat} {zs : List Value} (h : TElem P e sz bytes zs) : ∃ i z, P.info? e = some i ∧ i.zero = some z ∧ z.cells.toList = zs ∧ i.size = sz ∧ i.bytes = bytes := by
  obtain ⟨i, z, h1, h2, h3, _⟩ := h.zero
  obtain ⟨i', h4, h5⟩ := Option.map_eq_some_iff.1 h.size
  rw [h1] at h4
  injection h4 with h4
  subst h4
  obtain ⟨i', h4, h6⟩ := Option.map_eq_some_iff.1 h.bytes
  rw [h1] at h4
  injection h4 with h4
  subst h4
  exact ⟨i, z, h1, h2, h3, h5, h6⟩

/-- There is room. -/
theorem append_room {t t2 ty e : TypeId} {sz bytes : Nat} {zs : List Value} (h1 : P.underlying t = some (.slice e)) (h2 : ∃ d, P.underlying t2 = some d ∧ ∀ k, d ≠ .int k) (he : TElem P e sz bytes zs) {w : World} {u : Value} {m : Nat} {news : List Value} (hsrc : Src P w sz u m news)
    {g n cap : Nat} {cur : Array Value} {e' : TypeId} (hg : w.heap[g]? = some (.cells cur e' (0, 0))) (hroom : n + m ≤ cap) (hfit : n * sz + news.length ≤ cur.size) (hone : ∀ v ∈ news, v.oneCell' = true) :
    (Builtin.append_ #[t, t2] ty #[.slice (some ⟨g, 0, none⟩) n cap, u]).run P w = .ok (.slice (some ⟨g, 0, none⟩) (n + m) cap) (w.setRow g (cur.toList.take (n * sz) ++ news ++ cur.toList.drop (n * sz + news.length)).toArray) := by
  obtain ⟨i, z, h3, h4, h5, h6, h7⟩ := he.info
  obtain ⟨d, hd, hnd⟩ := h2
  have hst := run_storeCells_at P g (n * sz) e' news 0 cur w hg (by simpa using hfit) hone
  simp only [Nat.add_zero] at hst
  have hsz : (sizeOf e).run P w = .ok sz w := sizeOf_run he.size
  have hf := hsrc.first w rfl
  have hl := hsrc.len w
  cases d <;> first
    | exact absurd rfl (hnd _)
    | simp only [Builtin.append_, List.getElem?_toArray, List.getElem?_cons_zero, List.getElem?_cons_succ, Sem.run_bind, run_underlying h1, Result.andThen_ok, hsz, run_underlying hd, Sem.run_pure, Bool.false_eq_true, if_false, hl, if_pos hroom, Bool.not_false, if_true, hf, Addr.add_lit, Nat.zero_add, hst]

/-- There is none. -/
theorem append_grow {t t2 ty e : TypeId} {sz bytes : Nat} {zs : List Value} (h1 : P.underlying t = some (.slice e)) (h2 : ∃ d, P.underlying t2 = some d ∧ ∀ k, d ≠ .int k) (he : TElem P e sz bytes zs) {w : World} {u : Value} {m : Nat} {news : List Value} (hsrc : Src P w sz u m news)
    {base : Option Addr} {n cap : Nat} {olds : List Value} (hold : ∀ w' : World, w'.heap = w.heap → (Builtin.firstCells sz n (.slice base n cap)).run P w' = .ok olds.toArray w') (hroom : cap < n + m) (hbytes : (n + m) * bytes ≤ 140737488355328) (hmax : n + m ≤ 140737488355328) :
    ∃ newCap, n + m ≤ newCap ∧ newCap ≤ maxLen ∧ ∃ zc : List Value, (∀ v ∈ zc, v.oneCell' = true) ∧ zc.length = (newCap - (n + m)) * sz ∧
    (Builtin.append_ #[t, t2] ty #[.slice base n cap, u]).run P w = .ok (.slice (some ⟨w.heap.size, 0, none⟩) (n + m) newCap) (w.drew.alloc (.cells (olds ++ news ++ zc).toArray e)) := by
  obtain ⟨i, z, h3, h4, h5, h6, h7⟩ := he.info
  obtain ⟨_, _, h8, h9, h10, hzo⟩ := he.zero
  rw [h3] at h8
  injection h8 with h8
  subst h8
  rw [h4] at h9
  injection h9 with h9
  subst h9
  obtain ⟨d, hd, hnd⟩ := h2
  have hmaxLen : n + m ≤ maxLen := by simp only [maxLen]; omega
  refine ⟨grownCap w (n + m) cap e, grownCap_ge w _ _ _, grownCap_le_maxLen w _ _ _ hmaxLen, (Builtin.zeroCells z.cells (grownCap w (n + m) cap e - (n + m))).toList, fun v hv => ?_, ?_, ?_⟩
  · simp only [Builtin.zeroCells, Array.toList_map, List.mem_map] at hv
    obtain ⟨j, hj, rfl⟩ := hv
    have hj' : j < (grownCap w (n + m) cap e - (n + m)) * z.cells.size := by simpa using hj
    have hzs : z.cells.size = sz := by rw [← he.len, ← h5]; simp
    have hlt : j % z.cells.size < z.cells.size := Nat.mod_lt _ (by rw [hzs]; exact he.pos)
    have hin : z.cells[j % z.cells.size]! ∈ zs := by
      rw [← h5]
      simp [hlt]
    exact List.all_eq_true.1 hzo _ hin
  · have hzs : z.cells.size = sz := by rw [← he.len, ← h5]; simp
    simp [size_zeroCells, hzs]
  · have hsz : (sizeOf e).run P w = .ok sz w := sizeOf_run he.size
    have hf := hsrc.first w.drew rfl
    have hl := hsrc.len w
    have ho := hold w.drew rfl
    have hti : (typeInfo e).run P w = .ok i w := by simp [typeInfo, h3]
    have h63 : ¬ ((n + m : Nat) : Int) > IntKind.i64.max := by
      have : IntKind.i64.max = 9223372036854775807 := by decide
      rw [this]; omega
    have h48 : ¬ (Builtin.nextslicecap (n + m) cap * i.bytes > 2 ^ 48) := by
      rw [h7]
      have := growslice_fits (bytes := bytes) hroom hbytes
      omega
    have hch : (choose (.appendCap (n + m) cap e)).run P w = .ok (grownCap w (n + m) cap e) w.drew := by
      rw [run_choose]
      rfl
    have hzv : (zeroValue e).run P w.drew = .ok z w.drew := by simp [zeroValue, typeInfo, h3, h4]
    have hti2 : (typeInfo e).run P w.drew = .ok i w.drew := by simp [typeInfo, h3]
    have hand : ¬ ((((n + m : Nat) : Int) > IntKind.i64.max) ∧ ((false = true) ∨ i.bytes = 0)) := fun h => h63 h.1
    cases d <;> first
      | exact absurd rfl (hnd _)
      | (simp only [Builtin.append_, List.getElem?_toArray, List.getElem?_cons_zero, List.getElem?_cons_succ, Sem.run_bind, run_underlying h1, Result.andThen_ok, hsz, run_underlying hd, Sem.run_pure, Bool.false_eq_true, if_false, hl, if_neg (Nat.not_le.2 hroom), hti, if_neg h48, hch, hti2, run_askRoom, ho, Bool.not_false, if_true, hf, hzv, newRow, run_newObj, World.alloc_eq, World.size_drew, Sem.run_ite]
         simp only [Bool.false_eq_true] at hand
         rw [if_neg hand]
         congr 2
         simp)

theorem elems_src {h : Heap} (hi : Inv G x h) {v : AV} {u : Value} (hr : RelV x h v u) {old : Bool} {l : List (List C)} {sz : Nat} (he : elems h v = some (old, l)) (hsz : szOk sz l = true) :
    ∃ news, Src P x.w sz u l.length news ∧ RowIs x old sz l news := by
  obtain ⟨base, cap, rfl, hel⟩ := elems_rel hi hr he
  by_cases hne : l = []
  · subst hne
    refine ⟨[], ⟨fun _ => rfl, fun w' _ => ?_⟩, ⟨by simp, by simp, by simp, by simp⟩⟩
    cases base <;> simp [Builtin.firstCells, loadCells, loadCellsFrom]
  · obtain ⟨sz', b, o, vals, rfl, hs', hc, hrr⟩ := hel.at_ hne
    have hszeq : sz' = sz := by
      obtain ⟨e, r, rfl⟩ := List.exists_cons_of_ne_nil hne
      rw [← hs' e (by simp), szOk_iff.1 hsz e (by simp)]
    subst hszeq
    refine ⟨(List.range (l.length * sz')).map vals, ⟨fun _ => rfl, fun w' hw' => ?_⟩, ⟨by simp, hs', fun v hv => ?_, fun i k e c h1 h2 => ?_⟩⟩
    · refine run_firstCells_some w' sz' l.length ⟨b, o, none⟩ l.length cap _ (by simp) fun j v hv => ?_
      simp only [List.getElem?_map, Option.map_eq_some_iff] at hv
      obtain ⟨q, hq, rfl⟩ := hv
      simp only [List.getElem?_eq_some_iff, List.length_range, List.getElem_range] at hq
      obtain ⟨hj, rfl⟩ := hq
      rw [Addr.add_lit]
      have := hc j hj
      simpa [World.cell?, hw'] using this
    · obtain ⟨j, hj, rfl⟩ := List.mem_map.1 hv
      have hj' : j < l.length * sz' := by simpa using hj
      have hpos : 0 < sz' := by
        rcases Nat.eq_zero_or_pos sz' with h0 | h0
        · rw [h0] at hj'; simp at hj'
        · exact h0
      have hi' : j / sz' < l.length := Nat.div_lt_of_lt_mul (by rw [Nat.mul_comm]; exact hj')
      have hk : j % sz' < (l[j / sz']).length := by rw [hs' _ (List.getElem_mem hi')]; exact Nat.mod_lt _ hpos
      have := hrr (j / sz') (j % sz') _ _ (List.getElem?_eq_getElem hi') (List.getElem?_eq_getElem hk)
      rw [Nat.mul_comm, Nat.div_add_mod] at this
      exact this.one
    · have hi' : i < l.length := (List.getElem?_eq_some_iff.1 h1).1
      have hk : k < sz' := by rw [← hs' e (List.mem_of_getElem? h1)]; exact (List.getElem?_eq_some_iff.1 h2).1
      have hm : (i + 1) * sz' ≤ l.length * sz' := Nat.mul_le_mul_right _ hi'
      rw [Nat.add_mul, Nat.one_mul] at hm
      exact ⟨vals (i * sz' + k), by simp [show i * sz' + k < l.length * sz' by omega], hrr i k e c h1 h2⟩

theorem string_src {w : World} {s : ByteArray} : Src P w 1 (.string s) (eB s.data.toList).length (s.data.toList.map fun b => Value.int .u8 (b.toNat : Int)) := by
  have hlen : (eB s.data.toList).length = s.size := by rw [eB_length, Array.length_toList]; rfl
  refine ⟨fun _ => by rw [hlen]; rfl, fun w' _ => ?_⟩
  rw [hlen]
  simp only [Builtin.firstCells, Sem.run_pure]
  congr 1
  have : s.extract 0 s.size = s := by simp
  rw [this]
  apply Array.ext'
  simp

theorem rowIs_append {old1 old2 : Bool} {sz : Nat} {l m : List (List C)} {arr news : List Value} (h1 : RowIs x old1 sz l arr) (h2 : RowIs x old2 sz m news) : RowIs x (old1 || old2) sz (l ++ m) (arr ++ news) := by
  refine ⟨by simp [h1.size, h2.size, Nat.add_mul], fun e he => ?_, fun v hv => ?_, fun i k e c h3 h4 => ?_⟩
  · rcases List.mem_append.1 he with he | he
    · exact h1.els e he
    · exact h2.els e he
  · rcases List.mem_append.1 hv with hv | hv
    · exact h1.one v hv
    · exact h2.one v hv
  · by_cases c1 : i < l.length
    · rw [List.getElem?_append_left c1] at h3
      obtain ⟨v, h5, h6⟩ := h1.rep i k e c h3 h4
      exact ⟨v, by rw [List.getElem?_append_left (List.getElem?_eq_some_iff.1 h5).1]; exact h5, h6.le fun h => by simp [h]⟩
    · rw [List.getElem?_append_right (by omega)] at h3
      obtain ⟨v, h5, h6⟩ := h2.rep _ k e c h3 h4
      refine ⟨v, ?_, h6.le fun h => by simp [h]⟩
      have hm : l.length * sz ≤ i * sz := Nat.mul_le_mul_right _ (by omega)
      rw [List.getElem?_append_right (by rw [h1.size]; omega), h1.size]
      rw [show i * sz + k - l.length * sz = (i - l.length) * sz + k by rw [Nat.sub_mul]; omega]
      exact h5

/-- The row of an object. -/
theorem obj_row {h : Heap} (hi : Inv G x h) {id e s : Nat} {o f : Bool} {l : List (List C)} (hg : getO h id = some (.row e s o f l)) :
    ∃ arr : Array Value, x.w.heap[x.φ id]? = some (.cells arr e (0, 0)) ∧ arr.size = x.κ id * s ∧ l.length ≤ x.κ id ∧ x.κ id ≤ maxLen ∧ 0 < s ∧ (∀ v ∈ arr, v.oneCell' = true) ∧ RowIs x o s l (arr.toList.take (l.length * s)) ∧ (o = false → x.B0 ≤ x.φ id) := by
  obtain ⟨arr, h1, h2, h3, h4, h5, h6, h7, h8, _, h10⟩ := hi.obj id _ hg
  have hle : l.length * s ≤ arr.size := by rw [h2]; exact Nat.mul_le_mul_right _ h3
  refine ⟨arr, h1, h2, h3, h4, h5, h7, ⟨by simp; omega, h6, fun v hv => h7 v (by simpa using List.mem_of_mem_take hv), fun i k el c h11 h12 => ?_⟩, h10⟩
  obtain ⟨v, h13, h14⟩ := h8 i k el c h11 h12
  refine ⟨v, ?_, h14⟩
  have hi' : i < l.length := (List.getElem?_eq_some_iff.1 h11).1
  have hk : k < s := by rw [← h6 el (List.mem_of_getElem? h11)]; exact (List.getElem?_eq_some_iff.1 h12).1
  have hm : (i + 1) * s ≤ l.length * s := Nat.mul_le_mul_right _ hi'
  rw [Nat.add_mul, Nat.one_mul] at hm
  rw [List.getElem?_take, if_pos (by omega)]
  simpa using h13

/-- A row in a block with room behind it. -/
theorem objRel_row {x' : Cx} {h' : Heap} {id e s : Nat} {old : Bool} {l : List (List C)} {arr : List Value} (h1 : x'.w.heap[x'.φ id]? = some (.cells arr.toArray e (0, 0))) (h2 : arr.length = x'.κ id * s) (h3 : l.length ≤ x'.κ id) (h4 : x'.κ id ≤ maxLen) (h5 : 0 < s) (h6 : ∀ v ∈ arr, v.oneCell' = true)
    {front : List Value} (h7 : RowIs x' old s l front) (h8 : ∀ (j : Nat) (v : Value), front[j]? = some v → arr[j]? = some v) (h9 : old = false → x'.B0 ≤ x'.φ id) : ObjRel x' h' id (.row e s old false l) :=
  ⟨arr.toArray, h1, by simpa using h2, h3, h4, h5, h7.els, fun v hv => h6 v (by simpa using hv), fun i k el c h10 h11 => by
    obtain ⟨v, h12, h13⟩ := h7.rep i k el c h10 h11
    exact ⟨v, by simpa using h8 _ v h12, h13⟩, fun h => by simp at h, h9⟩

theorem RowIs.ext {x' : Cx} {old : Bool} {sz : Nat} {l : List (List C)} {arr : List Value} (h : RowIs x old sz l arr) (he : Ext x x') : RowIs x' old sz l arr :=
  ⟨h.size, h.els, h.one, fun i k e c h1 h2 => let ⟨v, h3, h4⟩ := h.rep i k e c h1 h2; ⟨v, h3, h4.mono (he.sh old)⟩⟩

/-- A row whose block is a new one now. -/
theorem OpOk.regrow {o : Oper} {h : Heap} {id e s n cap : Nat} {old old' : Bool} {l l' : List (List C)} {arr front : List Value} {w' : World} (hi : Inv G x h) (hB : x.B0 ≤ x.w.heap.size) (hg : getO h id = some (.row e s old false l)) (hle : l.length < l'.length) (hn : l'.length = n)
    (hr : (execOp a.eval o).run P x.w = .ok (.value (.slice (some ⟨x.w.heap.size, 0, none⟩) n cap)) w') (hm : Made x.w w' arr.toArray e (0, 0)) (h2 : arr.length = cap * s) (h3 : n ≤ cap) (h4 : cap ≤ maxLen) (h5 : 0 < s) (h6 : ∀ v ∈ arr, v.oneCell' = true)
    (h7 : RowIs x old' s l' front) (h8 : ∀ (j : Nat) (v : Value), front[j]? = some v → arr[j]? = some v) :
    OpOk P o a G x h (.row id n) (h.set id (some (.row e s old' false l'))) := fun K Q hK => by
  have hlt := getO_lt (by rw [hg]; rfl : (getO h id).isSome)
  have hst : Step (fun _ => True) x h (x.make w' id cap) (h.set id (some (.row e s old' false l'))) := {
    ext := ⟨rfl, fun b o hS => ⟨hS, hm.cell (hi.sh b o hS)⟩⟩
    size := by simp [Cx.make, hm.size]
    evo := fun i _ hs => by
      by_cases hne : i = id
      · subst hne
        refine ⟨⟨fun cs hc => ?_, fun e' s' o' f' l'' hc => ?_⟩, by rw [getO_set hlt, if_pos rfl]; rfl⟩
        · rw [getO_set hlt, if_pos rfl] at hc; simp at hc
        · rw [getO_set hlt, if_pos rfl] at hc
          injection hc with hc
          injection hc with e1 e2 e3 e4 e5
          subst e1 e2 e5
          exact ⟨old, false, l, hg, by omega, fun h => by omega⟩
      · exact ⟨.same (by rw [getO_set hlt, if_neg hne]) (upd_other _ hne) (upd_other _ hne), by rw [getO_set hlt, if_neg hne]; exact hs⟩
    frame := fun b hb _ => hm.old hb
    sgrow := fun b o hS => .inl hS
    fresh := fun i ob hg' hmut => by
      by_cases hne : i = id
      · right; simp [Cx.make, hne]
      · left
        rw [getO_set hlt, if_neg hne] at hg'
        exact ⟨i, ob, hg', hmut, upd_other _ hne⟩
    frow := fun i ob hg' hrow => by
      by_cases hne : i = id
      · right; simp [Cx.make, hne]
      · left
        rw [getO_set hlt, if_neg hne] at hg'
        exact ⟨i, ob, hg', hrow, fun h => h, upd_other _ hne⟩
    os := hm.os
    tape := hm.tape
    output := hm.output }
  have hinv : Inv G (x.make w' id cap) (h.set id (some (.row e s old' false l'))) := by
    refine hi.update id hst (fun i hne => by rw [getO_set hlt, if_neg hne]) (fun i hne => upd_other _ hne) (fun i hne => upd_other _ hne)
      (fun i ob _ hg' hd => hm.old (block_lt hi hg' hd)) (fun i ob _ hg' hmut => hi.own i ob hg' hmut) (fun b o hS => ?_) (fun ob hg' => ?_)
    · have := hi.sh b o hS
      simp only [Cx.make, hm.size]; omega
    · rw [getO_set hlt, if_pos rfl] at hg'
      injection hg' with hg'
      subst hg'
      refine ⟨objRel_row (arr := arr) (front := front) ?_ (by simpa [Cx.make] using h2) (by simp [Cx.make]; omega) (by simpa [Cx.make] using h4) h5 h6 (h7.ext hst.ext) h8 fun _ => by simpa [Cx.make] using hB, by simp [Obj.refs], fun _ j hS => ?_, fun _ i ob hne hgi hd => ?_⟩
      · simpa [Cx.make] using hm.new
      · have := hi.sh _ _ hS
        simp [Cx.make] at this
      · have := block_lt hi hgi hd
        simp only [Cx.make, upd_same]
        omega
  unfold Oper.wp
  rw [hr]
  refine hK (x.make w' id cap) _ hinv hst (.row id n _ trivial (fun e' s' o' f' l'' hc => ?_) fun e' s' o' f' l'' hc _ => by simp [Cx.make]) fun i hid => ?_
  · rw [getO_set hlt, if_pos rfl] at hc
    injection hc with hc
    injection hc with _ _ _ _ e5
    subst e5
    omega
  · simp only [AV.refs, List.mem_singleton] at hid
    subst hid
    rw [getO_set hlt, if_pos rfl]
    rfl

theorem app_ok {o : Oper} {y z : Operand} {t t2 e : TypeId} {s sz bytes : Nat} {zs : List Value} {F : FnEv} (ho : o.op = .call { callee := .builtin .append, args := #[y, z], argTypes := #[t, t2] }) (h1 : P.underlying t = some (.slice e)) (h2 : ∃ d, P.underlying t2 = some d ∧ ∀ k, d ≠ .int k)
    (he : TElem P e sz bytes zs) (hs : RelS G x st a) {v : AV} {h' : Heap} (hev : evW G st.t F st.h (.app s e sz bytes (trO y) (trO z)) = some (v, h')) : OpOk P o a G x st.h v h' := by
  have hr := hs.opd y
  have hrz := hs.opd z
  have hrun : ∀ r w', (Builtin.append_ #[t, t2] o.type #[a.eval y, a.eval z]).run P x.w = .ok r w' → (execOp a.eval o).run P x.w = .ok (.value r) w' := fun r w' h => by
    simp [execOp, ho, resolve, invoke, builtin, h]
  simp only [evW] at hev
  split at hev
  · rename_i ol m hm
    split at hev
    · rename_i hsz
      have hsrc : ∃ news, Src P x.w sz (a.eval z) m.length news ∧ RowIs x ol sz m news := by
        revert hm hrz
        generalize rho G st.t (trO z) = q
        generalize a.eval z = u
        intro hrz hm
        split at hm
        · rename_i str
          injection hm with hm
          injection hm with e1 e2
          subst e1 e2
          rw [hrz.s_inv]
          have hsz1 : sz = 1 ∨ eB str.data.toList = [] := by
            by_cases hnil : eB str.data.toList = []
            · exact .inr hnil
            · obtain ⟨q, r, hq⟩ := List.exists_cons_of_ne_nil hnil
              have hmem : q ∈ eB str.data.toList := by rw [hq]; simp
              have := szOk_iff.1 hsz q hmem
              obtain ⟨b, _, rfl⟩ := List.mem_map.1 hmem
              exact .inl this.symm
          rcases hsz1 with h | h
          · subst h
            exact ⟨_, string_src, rowIs_bytes _⟩
          · rw [h]
            have h0 : str.data.toList = [] := by simpa [eB] using h
            refine ⟨[], ⟨fun _ => ?_, fun w' _ => ?_⟩, ⟨by simp, by simp, by simp, by simp⟩⟩
            · have hs0 : str.size = 0 := by have := congrArg List.length h0; simpa using this
              simp [Builtin.lenOf, hs0]
            · have : (str.extract 0 0).data = #[] := by simp
              simp [Builtin.firstCells]
        · exact elems_src hs.inv hrz hm hsz
      obtain ⟨news, hsrc, hnews⟩ := hsrc
      split at hev
      · rename_i hq
        rw [hq] at hr
        have hy := hr.nilsl_inv
        split at hev
        · rename_i hemp
          injection hev with hev
          injection hev with e1 e2
          subst e1 e2
          have hm0 : m = [] := by simpa using hemp
          subst hm0
          have hn0 : news = [] := List.eq_nil_of_length_eq_zero (by simpa using hnews.size)
          subst hn0
          refine OpOk.val hs.inv (hrun (.slice none 0 0) x.w ?_) .nilsl (by simp [AV.refs])
          obtain ⟨d, hd, hnd⟩ := h2
          have hl := hsrc.len x.w
          have hf := hsrc.first x.w rfl
          simp only [List.length_nil] at hl hf
          rw [hy]
          cases d <;> first
            | exact absurd rfl (hnd _)
            | simp only [Builtin.append_, List.getElem?_toArray, List.getElem?_cons_zero, List.getElem?_cons_succ, Sem.run_bind, run_underlying h1, Result.andThen_ok, sizeOf_run he.size, run_underlying hd, Sem.run_pure, Bool.false_eq_true, if_false, hl, Nat.add_zero, Nat.le_refl, if_true, Bool.not_false, hf]
        · rename_i hemp
          split at hev
          · rename_i hb
            split at hev
            · rename_i h1' hal
              injection hev with hev
              injection hev with e1 e2
              subst e1 e2
              have hpos : 0 < m.length := by
                rcases Nat.eq_zero_or_pos m.length with h | h
                · have := List.eq_nil_of_length_eq_zero h
                  subst this
                  simp at hemp
                · exact h
              obtain ⟨newCap, hc1, hc2, zc, hz1, hz2, hrun'⟩ := append_grow (ty := o.type) h1 h2 he hsrc (base := none) (n := 0) (cap := 0) (olds := []) (fun w' _ => run_firstCells_none w' _ _ _ _) (by omega) (by simpa using hb.1) (by simpa using hb.2)
              rw [Nat.zero_add] at hc1 hz2 hrun'
              have hst0 := alloc1 hal
              obtain ⟨hs0, rfl⟩ := hst0
              have hlt : s < st.h.length := (List.getElem?_eq_some_iff.1 hs0).1
              intro K Q hK
              have hm : Made x.w (x.w.drew.alloc (.cells ([] ++ news ++ zc).toArray e)) ([] ++ news ++ zc).toArray e (0, 0) := ⟨rfl, rfl, rfl, rfl⟩
              have hst := Step.make (h := st.h) (cap := newCap) (o := .row e sz ol false m) hm hs.inv.sh hs0
              have hinv : Inv G (x.make (x.w.drew.alloc (.cells ([] ++ news ++ zc).toArray e)) s newCap) (st.h.set s (some (.row e sz ol false m))) := by
                refine hs.inv.make hm hs0 (objRel_row (arr := [] ++ news ++ zc) (front := news) ?_ ?_ (by simpa [Cx.make] using hc1) (by simpa [Cx.make] using hc2) he.pos (fun v hv => ?_) (hnews.ext hst.ext) (fun j v hv => ?_) fun _ => by simpa [Cx.make] using hs.b0) (by simp [Obj.refs])
                · simpa [Cx.make] using hm.new
                · simp only [List.nil_append, List.length_append, hnews.size, hz2, Cx.make, upd_same, ← Nat.add_mul]
                  congr 1
                  omega
                · simp only [List.nil_append, List.mem_append] at hv
                  exact hv.elim (hnews.one v) (hz1 v)
                · rw [List.nil_append, List.getElem?_append_left (List.getElem?_eq_some_iff.1 hv).1]
                  exact hv
              unfold Oper.wp
              rw [hrun _ _ (by rw [hy]; exact hrun')]
              refine hK (x.make _ s newCap) _ hinv hst (.row s m.length _ trivial (fun e' s' o' f' l' hg => ?_) fun e' s' o' f' l' hg _ => by simp [Cx.make]) fun id hid => ?_
              · rw [getO_set hlt, if_pos rfl] at hg
                injection hg with hg
                injection hg with _ _ _ _ h5
                subst h5
                omega
              · simp only [AV.refs, List.mem_singleton] at hid
                subst hid
                rw [getO_set hlt, if_pos rfl]
                rfl
            · simp at hev
          · simp at hev
      · rename_i id n hq
        rw [hq] at hr
        split at hev
        · rename_i e0 s0 o' l hrow
          obtain ⟨hg, hlen⟩ := rowAt_inv hrow
          split at hev
          · rename_i hc
            obtain ⟨rfl, rfl, hb, hmx⟩ := hc
            injection hev with hev
            injection hev with e1 e2
            subst e1 e2
            obtain ⟨arr, hb1, hsize, hcap, hmax, hpos, hone, hfront, hB⟩ := obj_row hs.inv hg
            have hlt := getO_lt (by rw [hg]; rfl : (getO st.h id).isSome)
            cases hr with
            | row id n u hv hle hr =>
              have hy := hr _ _ _ _ _ hg hlen
              subst hlen
              have hle1 : l.length * s0 ≤ arr.size := by rw [hsize]; exact Nat.mul_le_mul_right _ hcap
              by_cases hroom : l.length + m.length ≤ x.κ id
              · have hfit : l.length * s0 + news.length ≤ arr.size := by rw [hnews.size, hsize, ← Nat.add_mul]; exact Nat.mul_le_mul_right _ hroom
                have hr' := append_room (ty := o.type) h1 h2 he hsrc hb1 hroom hfit hnews.one
                intro K Q hK
                unfold Oper.wp
                rw [hrun _ _ (by rw [hy]; exact hr')]
                have hw : Wrote x.w (x.w.setRow (x.φ id) (arr.toList.take (l.length * s0) ++ news ++ arr.toList.drop (l.length * s0 + news.length)).toArray) (x.φ id) (arr.toList.take (l.length * s0) ++ news ++ arr.toList.drop (l.length * s0 + news.length)).toArray e0 := wrote_setRow hb1
                generalize x.w.setRow (x.φ id) (arr.toList.take (l.length * s0) ++ news ++ arr.toList.drop (l.length * s0 + news.length)).toArray = w' at hw ⊢
                have hevo : Evo x st.h { x with w := w' } (st.h.set id (some (.row e0 s0 (o' || ol) false (l ++ m)))) id := by
                  refine ⟨fun c hc' => ?_, fun e' s' o'' f' l'' hc' => ?_⟩
                  · rw [getO_set hlt, if_pos rfl] at hc'
                    simp at hc'
                  · rw [getO_set hlt, if_pos rfl] at hc'
                    injection hc' with hc'
                    injection hc' with e1 e2 e3 e4 e5
                    subst e1 e2 e5
                    exact ⟨o', false, l, hg, by simp, fun _ => ⟨rfl, rfl⟩⟩
                have hst := Step.write hs.inv hw hg rfl hevo
                refine hK _ _ (hs.inv.write hw hg rfl hevo ?_ (by simp [Obj.refs])) hst (.row id _ _ trivial (fun e' s' o'' f' l'' hc' => ?_) fun e' s' o'' f' l'' _ _ => by simp) fun i hid => ?_
                · refine objRel_row (front := arr.toList.take (l.length * s0) ++ news) hw.new ?_ (by simpa using hroom) hmax hpos (fun v hv => ?_) ((rowIs_append hfront hnews).ext hst.ext) (fun j v hv => ?_) fun h => hB (by simp only [Bool.or_eq_false_iff] at h; exact h.1)
                  · simp only [List.length_append, List.length_take, List.length_drop, Array.length_toList]
                    omega
                  · simp only [List.mem_append] at hv
                    rcases hv with (hv | hv) | hv
                    · exact hone v (by simpa using List.mem_of_mem_take hv)
                    · exact hnews.one v hv
                    · exact hone v (by simpa using List.mem_of_mem_drop hv)
                  · rw [List.getElem?_append_left (List.getElem?_eq_some_iff.1 hv).1]
                    exact hv
                · rw [getO_set hlt, if_pos rfl] at hc'
                  injection hc' with hc'
                  injection hc' with _ _ _ _ e5
                  subst e5
                  exact Nat.le_refl _
                · simp only [AV.refs, List.mem_singleton] at hid
                  subst hid
                  rw [getO_set hlt, if_pos rfl]
                  rfl
              · have hold : ∀ w' : World, w'.heap = x.w.heap → (Builtin.firstCells s0 l.length (.slice (some ⟨x.φ id, 0, none⟩) l.length (x.κ id))).run P w' = .ok (arr.toList.take (l.length * s0)).toArray w' := fun w' hw' => by
                  refine run_firstCells_some w' s0 l.length _ _ _ _ (by simp; omega) fun j v hv => ?_
                  rw [Addr.add_lit, Nat.zero_add, cell_of_row w' _ _ arr e0 (0, 0) (by rw [hw']; exact hb1)]
                  rw [List.getElem?_take] at hv
                  split at hv
                  · simpa using hv
                  · simp at hv
                obtain ⟨newCap, hc1, hc2, zc, hz1, hz2, hrun'⟩ := append_grow (ty := o.type) h1 h2 he hsrc hold (by omega) hb hmx
                refine OpOk.regrow (cap := newCap) (w' := x.w.drew.alloc (.cells (arr.toList.take (l.length * s0) ++ news ++ zc).toArray e0)) (arr := arr.toList.take (l.length * s0) ++ news ++ zc) (front := arr.toList.take (l.length * s0) ++ news) hs.inv hs.b0 hg (by simp; omega) rfl (hrun _ _ (by rw [hy, List.length_append]; exact hrun')) ⟨rfl, rfl, rfl, rfl⟩ ?_ (by simpa using hc1) hc2 he.pos (fun v hv => ?_) (rowIs_append hfront hnews) fun j v hv => ?_
                · have h11 : (arr.toList.take (l.length * s0)).length = l.length * s0 := by simp; omega
                  rw [List.length_append, List.length_append, h11, hnews.size, hz2, ← Nat.add_mul, ← Nat.add_mul]
                  congr 1
                  omega
                · simp only [List.mem_append] at hv
                  rcases hv with (hv | hv) | hv
                  · exact hone v (by simpa using List.mem_of_mem_take hv)
                  · exact hnews.one v hv
                  · exact hz1 v hv
                · rw [List.getElem?_append_left (List.getElem?_eq_some_iff.1 hv).1]
                  exact hv
          · simp at hev
        · simp at hev
      · simp at hev
    · simp at hev
  · simp at hev

end
end Go.Ev
