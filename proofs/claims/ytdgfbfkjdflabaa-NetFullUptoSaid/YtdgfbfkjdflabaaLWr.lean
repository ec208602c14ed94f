/-
  New maps.
-/
import Derived.Test.YtdgfbfkjdflabaaLNetU
import Derived.WalkKit
import Derived.Deep.LoopGhost
import Derived.Deep.RegionLaw
import Derived.Lib.Walk
import Derived.Sort.WalkB12
import Derived.Lib.SliceRun
import Derived.Lib.SlicesDelete
import Derived.ProofKit
import Derived.Test.YtdgfbfkjdflabaaEvE
import Derived.Test.YtdgfbfkjdflabaaIr
import Derived.KernelRfl
set_option linter.unusedSimpArgs false
set_option linter.unusedVariables false
set_option maxRecDepth 200000
set_option maxHeartbeats 4000000
namespace Go.Proofs.Ytdgfbfkjdflabaa
open Go.Ev
open Go.WideShapes Go.ChangeMaps
theorem make_run (t : TypeId) (w : World) : (Instr.makeMap t none).run Try.prog w = .ok (.map (some w.heap.size)) (w.alloc (.map #[] 0)) := by
 simp [Instr.makeMap, Result.andThen]
theorem alloc_size (w : World) (o : Go.Obj) : (w.alloc o).heap.size = w.heap.size + 1 := by rw [World.alloc, Array.size_push]
theorem alloc_new (w : World) (o : Go.Obj) : (w.alloc o).heap[w.heap.size]? = some o := by rw [World.alloc, Array.getElem?_push, if_pos rfl]
theorem getO_none (j : Nat) : getO (([] : List Ev.Obj).map some) j = none := by simp [getO]
theorem make_post {p : Nat} {t : TypeId} {d : Big} (hp : pInstr p [] = Instr.makeMap t none) (hd : ∀ (w : World) (S : Nat → Nat → Prop), netRel.rel d (w.alloc (.map #[] 0)) S w.heap.size fun _ => False) : PContract Try.prog G0 p [] [] [.mp 0] [.big d] := by
 intro x vals hB hi hal har hlv
 match vals, hal with
 | [], _ =>
  let x' : Cx := { w := x.w.alloc (.map #[] 0), S := x.S, φ := fun _ => x.w.heap.size, κ := x.κ, B0 := x.B0, Ω := fun _ _ => False, bg := x.bg }
  have hold : ∀ c, c < x.w.heap.size → x'.w.heap[c]? = x.w.heap[c]? := fun c hc => by
   show (x.w.alloc (.map #[] 0)).heap[c]? = _
   rw [World.alloc, Array.getElem?_push, if_neg (Nat.ne_of_lt hc)]
  have hsz : x'.w.heap.size = x.w.heap.size + 1 := alloc_size _ _
  have hext : Ext x x' := ⟨rfl, rfl, fun b q hs => ⟨hs, by
   simp only [World.cell?]
   rw [hold b (hi.sh b q hs)]⟩⟩
  have g0 : ∀ {i : Nat} {ob : Ev.Obj}, getO (([Ev.Obj.big d] : List Ev.Obj).map some) i = some ob → i = 0 ∧ ob = .big d := fun {i ob} hg => by
   match i, hg with
   | 0, hg => simp [getO] at hg; exact ⟨rfl, hg.symm⟩
   | i + 1, hg => simp [getO] at hg
  refine ⟨[.map (some x.w.heap.size)], x', ?_, ?_, ?_, rfl, fun i a v h1 h2 => ?_, fun id hid => ?_⟩
  ·rw [hp]; exact make_run t x.w
  ·exact {
    bgo := hi.bgo
    obj := fun i ob hg => by
     obtain ⟨rfl, rfl⟩ := g0 hg
     show x.bg.rel _ _ _ _ _
     rw [hi.bgo]
     exact hd x.w x.S
    inj := fun i j oi oj gi gj _ _ _ => by
     rw [(g0 gi).1, (g0 gj).1]
    own := fun i ob hg hm q hS => by
     have := hi.sh _ _ hS
     exact Nat.lt_irrefl _ this
    sh := fun b q hS => by
     rw [hsz]
     have := hi.sh b q hS
     omega
    live := fun i ob hg j hj => by
     obtain ⟨rfl, rfl⟩ := g0 hg
     simp [Obj.refs] at hj
    glob := fun g j c hg => by simp [G0] at hg
    big := fun i d hg b hb => hb.elim }
  ·exact {
    ext := hext
    size := by rw [hsz]; omega
    evo := fun j _ hj => by rw [getO_none] at hj; cases hj
    frame := fun b hb _ _ => hold b hb
    sgrow := fun b q hS => .inl hS
    bfresh := fun j d b hj hb => hb.elim
    fresh := fun j ob hj hm => .inr (Nat.le_refl _)
    frow := fun j ob hj hm => .inr (Nat.le_refl _)
    os := rfl
    tape := rfl
    output := rfl
    nf := fun N hn b o hb hc => by
     by_cases h : b < x.w.heap.size
     ·simp only [World.cell?, World.frozen?] at hc ⊢
      rw [hold b h] at hc ⊢
      exact hn b o hb hc
     ·exfalso
      simp only [World.cell?] at hc
      have : x'.w.heap[b]? = some (.map #[] 0) ∨ x'.w.heap[b]? = none := by
       by_cases h2 : b = x.w.heap.size
       ·subst h2
        left
        exact alloc_new _ _
       ·right
        exact Array.getElem?_eq_none (by rw [hsz]; omega)
      rcases this with h3 | h3 <;> rw [h3] at hc <;> simp at hc }
  ·cases i with
   | zero =>
    simp at h1 h2
    subst h1 h2
    exact .mp 0 _ trivial fun d _ => rfl
   | succ i => simp at h1
  ·simp only [refsL, AV.refs, List.append_nil, List.mem_singleton] at hid
   subst hid
   rfl
theorem make_lines : PContract Try.prog G0 226 [] [] [.mp 0] [.big (.lines fun _ => none)] := make_post (t := 56) rfl fun w S => ⟨#[], 0, alloc_new _ _, ⟨by simp, fun f t _ h => by simp at h, by simp, by simp, by simp⟩, by simp⟩
theorem make_flags : PContract Try.prog G0 230 [] [] [.mp 0] [.big (.flags fun _ => false)] := make_post (t := 57) rfl fun w S => ⟨#[], 0, alloc_new _ _, by simp, fun f t _ h => by simp at h, by simp, by simp, by simp⟩
end Go.Proofs.Ytdgfbfkjdflabaa
namespace Go.Proofs.Ytdgfbfkjdflabaa
open Go.Ev
open Go.RowKit Go.Lib Go.Sort
section
variable {α : Type} [Inhabited α]
theorem del_walk (enc : α → Value) (h1 : ∀ x, (enc x).oneCell' = true) (zr : α) (hzr : enc zr = .slice none 0 0) (blk off cap i j : Nat) (d : Array α) (w : World) (hH : Holds enc w blk off d) (hcap : d.size ≤ cap) (hm : cap ≤ 9223372036854775807) (hlt : i < j) (hj : j ≤ d.size) :
  Calls Try.prog 22 #[.slice (some ⟨blk, off, none⟩) d.size cap, .int .i64 i, .int .i64 j] w fun e w' => e = .returned (.slice (some ⟨blk, off, none⟩) (d.size - (j - i)) cap) ∧ ∃ q, w' = putRow enc (Sort.ahead w q) blk off (d.toList.take i ++ d.toList.drop j ++ List.replicate (j - i) zr).toArray := by
 obtain ⟨i0, hi0, hz0, hz1, hz2⟩ := info_parts (show (Try.prog.info? 29).map (fun i => (i.zero, i.size, i.bytes)) = some (some (.slice none 0 0), 1, 24) by kernel_rfl)
 have v23 : ∀ w, (zeroValue 29).run Try.prog w = .ok (.slice none 0 0) w := fun w => by kernel_rfl
 have hij : i ≤ j := by omega
 obtain ⟨news, hnews⟩ : ∃ news, news = (d.toList.drop j).map enc := ⟨_, rfl⟩
 have hlen : news.length = d.size - j := by rw [hnews]; simp
 have hget : ∀ t, t < d.size - j → news[t]? = some (enc d[j + t]!) := by
  intro t ht
  rw [hnews, List.getElem?_map, List.getElem?_drop, Array.getElem?_toList, getElem!_pos d (j + t) (by omega), Array.getElem?_eq_getElem (by omega)]
  rfl
 obtain ⟨A, hA, hsrc⟩ : ∃ A : Addr, (if cap = j then some (⟨blk, off, none⟩ : Addr) else some ⟨blk, off + j, none⟩) = some A ∧ Hid (∀ t u, news[t]? = some u → w.drew.cell? (A.add t) = some u) := by
  by_cases h : cap = j
  ·refine ⟨⟨blk, off, none⟩, by simp [h], fun t u hu => ?_⟩
   have h0 : news.length = 0 := by rw [hlen]; omega
   rw [List.length_eq_zero_iff.1 h0] at hu
   simp at hu
  ·refine ⟨⟨blk, off + j, none⟩, by simp [h], fun t u hu => ?_⟩
   have ht : t < d.size - j := by
    have := (List.getElem?_eq_some_iff.1 hu).1
    rwa [hlen] at this
   rw [hget t ht] at hu
   rw [Addr.add_lit, show off + j + t = off + (j + t) by omega]
   exact (hH (j + t) (by omega)).1.trans hu
 have s1 : Hid (news.length = (d.size - j) * 1) := by rw [Nat.mul_one]; exact hlen
 have s2 : Hid (∀ u ∈ news, u.oneCell' = true) := by
  intro u hu
  rw [hnews] at hu
  obtain ⟨x, _, rfl⟩ := List.mem_map.1 hu
  exact h1 x
 have s3 : Hid (∀ t, t < news.length → (w.drew.cell? ⟨blk, off + i * 1 + t, none⟩).isSome = true ∧ w.drew.frozen? ⟨blk, off + i * 1 + t, none⟩ = false) := by
  intro t ht
  rw [hlen] at ht
  rw [Nat.mul_one, Nat.add_assoc]
  exact ⟨by show (w.cell? _).isSome = true; rw [(hH (i + t) (by omega)).1]; rfl, (hH (i + t) (by omega)).2⟩
 obtain ⟨W1, hW1⟩ : ∃ W1, W1 = w.drew.setCells blk (off + i * 1) news := ⟨_, rfl⟩
 have hW1' : W1 = putRow enc (Sort.ahead w 1) blk off (lay d i (d.toList.drop j)) := by
  rw [hW1, hnews, Nat.mul_one, ← putRow_setCells enc (Sort.ahead w 1) blk off _ d i (by simp; omega), putRow_self enc (Sort.ahead w 1) blk off d (holds_ahead enc w 1 blk off d hH)]
  rfl
 have hH1 : Holds enc W1 blk off (lay d i (d.toList.drop j)) := by rw [hW1']; exact holds_putRow enc _ blk off d _ (holds_ahead enc w 1 blk off d hH) (lay_size _ _ _)
 have hcl : ∀ ty, (Builtin.clear_ #[64] ty #[.slice (some ⟨blk, off + (i + (d.size - j)), none⟩) (d.size - (i + (d.size - j))) (cap - (i + (d.size - j)))]).run Try.prog W1 = .ok (.tuple #[]) (W1.setCells blk (off + (i + (d.size - j))) (List.replicate (d.size - (i + (d.size - j))) (enc zr))) := by
  rw [hzr]
  exact fun ty => Lib.run_clear_slice W1 _ _ ty _ Try.underlying64 v23 rfl rfl blk (off + (i + (d.size - j))) _ _ (by omega) (fun t ht => by rw [show off + (i + (d.size - j)) + t = off + (i + (d.size - j) + t) by omega, (hH1 _ (by rw [lay_size]; omega)).1]; rfl) (fun t ht => by rw [show off + (i + (d.size - j)) + t = off + (i + (d.size - j) + t) by omega]; exact (hH1 _ (by rw [lay_size]; omega)).2)
 have X : Aside (W1 = putRow enc (Sort.ahead w 1) blk off (lay d i (d.toList.drop j))) := hW1'
 have hW : Hid (W1 = w.drew.setCells blk (off + i * 1) news) := hW1
 have hic : i ≤ cap := by omega
 have hjc : j ≤ cap := by omega
 clear hW1 hW1' hH1 hH hget hnews hlen
 go_enter Try.func22, Try.ntmps22
 go_wp2_with fail
 go_region_law (refine step_append_room rfl (.tmp 22) (.tmp 25) 64 rfl 29 i0 1 Try.underlying64 hi0 hz1 blk off i cap (by simp [Act.eval, Act.put]) A (d.size - j) (cap - j) news (by simp [Act.eval, Act.put]) s1.out hsrc.out s2.out (by omega) s3.out ?_; rw [← hW.out])
 go_wp2
 go_ret
 refine ⟨by rw [show d.size - (j - i) = i + (d.size - j) by omega]; rfl, 1, ?_⟩
 rw [← delete_arr d i j zr hij hj, ← putRow_setCells enc _ blk off _ _ (i + (d.size - j)) (by rw [lay_size]; simp; omega), ← X.out, List.map_replicate, show d.size - (i + (d.size - j)) = j - i by omega, hzr]
end
end Go.Proofs.Ytdgfbfkjdflabaa
namespace Go.Proofs.Ytdgfbfkjdflabaa
open Go.Ev
open Go.RowKit Go.Lib Go.Sort Go.ChangeMaps
def encU (v : Value) : Value := if v.oneCell' = true then v else .slice none 0 0
theorem encU_one (v : Value) : (encU v).oneCell' = true := by
 unfold encU
 split
 ·assumption
 ·rfl
theorem encU_of {v : Value} (h : v.oneCell' = true) : encU v = v := if_pos h
theorem put_heap (w : World) (q blk : Nat) (d : Array Value) {arr : Array Value} {e : TypeId} {fr : Nat × Nat} (h : w.heap[blk]? = some (.cells arr e fr)) : (putRow encU (Sort.ahead w q) blk 0 d).heap[blk]? = some (.cells (putCells encU 0 d arr) e fr) ∧ (putRow encU (Sort.ahead w q) blk 0 d).heap.size = w.heap.size ∧ ∀ c, c ≠ blk → (putRow encU (Sort.ahead w q) blk 0 d).heap[c]? = w.heap[c]? := by
 have hh : (Sort.ahead w q).heap = w.heap := rfl
 refine ⟨?_, ?_, fun c hc => ?_⟩
 ·simp only [putRow, mapBlock, hh, Array.getElem?_modify, if_true, h, Option.map_some, onCells]
 ·simp only [putRow, mapBlock, hh, Array.size_modify]
 ·simp only [putRow, mapBlock, hh, Array.getElem?_modify]
  rw [if_neg (Ne.symm hc)]
theorem put_get (d arr : Array Value) (k : Nat) : (putCells encU 0 d arr)[k]? = (arr[k]?).map fun x => if k < d.size then encU d[k]! else x := by
 simp only [putCells, Array.getElem?_mapIdx, Nat.zero_le, true_and, Nat.zero_add, Nat.sub_zero]
theorem del_ok (n : Nat) (i : Int) (e : Nat) (o : Bool) (els : List (List C)) (hi0 : 0 ≤ i) (hin : i + 1 ≤ n) (hn : n = els.length) : Contract Try.prog G0 22 [.row 0 n, .s (.int .i64 i), .s (.int .i64 (i + 1))] [.row e 1 o false els] [.row 1 (n - 1)] [.dead, .row e 1 o false (els.eraseIdx i.toNat)] := by
 intro x vals hB hi hal har hlv
 match vals, hal with
 | [v0, v1, v2], _ =>
  generalize hh : [Ev.Obj.row e 1 o false els].map some = h at *
  have g0 : getO h 0 = some (.row e 1 o false els) := by rw [← hh]; rfl
  have hgl : ∀ {j : Nat} {ob : Ev.Obj}, getO h j = some ob → j = 0 ∧ ob = .row e 1 o false els := fun {j ob} hg => by
   match j, hg with
   | 0, hg => rw [g0] at hg; injection hg with hg; exact ⟨rfl, hg.symm⟩
   | j + 1, hg => rw [← hh, getO_map] at hg; simp at hg
  subst hn
  obtain rfl := row_inv (har 0 _ v0 rfl rfl) g0 rfl
  obtain rfl := (har 1 _ v1 rfl rfl).s_inv
  obtain rfl := (har 2 _ v2 rfl rfl).s_inv
  obtain ⟨arr, r1, r2, r3, r4, r5, r6, r7, r8, r9, r10⟩ := hi.obj 0 _ g0
  have hlt : x.φ 0 < x.w.heap.size := (Array.getElem?_eq_some_iff.1 r1).1
  have own0 : ∀ q, ¬ x.S (x.φ 0) q := hi.own 0 _ g0 rfl
  obtain ⟨m, rfl⟩ : ∃ m : Nat, i = m := ⟨i.toNat, by omega⟩
  simp only [Int.toNat_natCast]
  have hm : m + 1 ≤ els.length := by omega
  have hasz : arr.size = x.κ 0 := by simpa using r2
  let d : Array Value := (arr.toList.take els.length).toArray
  have hds : d.size = els.length := by
   simp only [d, List.size_toArray, List.length_take, Array.length_toList]
   omega
  have hdg : ∀ k, k < els.length → arr[k]? = some d[k]! ∧ (d[k]!).oneCell' = true := fun k hk => by
   have h1 : k < arr.size := by omega
   have h2 : d[k]! = arr[k] := by
    rw [getElem!_pos d k (by omega)]
    simp [d]
   rw [h2]
   exact ⟨Array.getElem?_eq_getElem h1, r7 _ (Array.getElem_mem h1)⟩
  have hH : Holds encU x.w (x.φ 0) 0 d := fun j hj => by
   rw [hds] at hj
   obtain ⟨h1, h2⟩ := hdg j hj
   rw [encU_of h2]
   simp only [Nat.zero_add]
   exact ⟨by simp [World.cell?, r1, h1], by simp [World.frozen?, r1]⟩
  have hmx : x.κ 0 ≤ 9223372036854775807 := r4
  have hcalls := del_walk encU encU_one (.slice none 0 0) rfl (x.φ 0) 0 (x.κ 0) m (m + 1) d x.w hH (by rw [hds]; exact r3) hmx (Nat.lt_succ_self m) (by rw [hds]; exact hm)
  rw [hds] at hcalls
  have e1 : (((m + 1 : Nat) : Int)) = (m : Int) + 1 := by omega
  rw [e1] at hcalls
  refine hcalls.mono fun ev w' ⟨he, q, hw⟩ => ⟨[.slice (some ⟨x.φ 0, 0, none⟩) (els.length - 1) (x.κ 0)], by rw [he, show els.length - (m + 1 - m) = els.length - 1 by omega]; rfl, ?_⟩
  clear hcalls he
  generalize hd' : (d.toList.take m ++ d.toList.drop (m + 1) ++ List.replicate (m + 1 - m) (Value.slice none 0 0)).toArray = d' at hw
  obtain ⟨p1, p2, p3⟩ := put_heap x.w q (x.φ 0) d' r1
  rw [← hw] at p1 p2 p3
  have hd's : d'.size = els.length := by
   rw [← hd']
   simp [hds]
   omega
  have hd'g : ∀ k, k + 1 < els.length → d'[k]! = d[if k < m then k else k + 1]! := fun k hk => by
   have key : d'[k]? = d[if k < m then k else k + 1]? := by
    rw [← hd']
    simp only [List.getElem?_toArray]
    rw [List.getElem?_append_left (by simp [hds]; omega)]
    by_cases c : k < m
    ·rw [List.getElem?_append_left (by simp [hds]; omega), List.getElem?_take, if_pos c, if_pos c]
     simp
    ·have hl : (d.toList.take m).length = m := by simp [hds]; omega
     rw [List.getElem?_append_right (by omega), List.getElem?_drop, hl, show m + 1 + (k - m) = k + 1 by omega, if_neg c]
     simp
   simp only [getElem!_def, key]
  have hold : ∀ c, c ≠ x.φ 0 → w'.heap[c]? = x.w.heap[c]? := p3
  let x' : Cx := { x with w := w', φ := fun _ => x.φ 0, κ := fun _ => x.κ 0 }
  have hext : Ext x x' := ⟨rfl, rfl, fun b q hs => ⟨hs, by
   have : b ≠ x.φ 0 := fun he => own0 q (he ▸ hs)
   simp only [World.cell?]
   rw [show x'.w.heap[b]? = x.w.heap[b]? from hold b this]⟩⟩
  generalize hh' : [Ev.Obj.dead, .row e 1 o false (els.eraseIdx m)].map some = h'
  have q1 : getO h' 1 = some (.row e 1 o false (els.eraseIdx m)) := by rw [← hh']; rfl
  have hgl' : ∀ {j : Nat} {ob : Ev.Obj}, getO h' j = some ob → (j = 0 ∧ ob = .dead) ∨ (j = 1 ∧ ob = .row e 1 o false (els.eraseIdx m)) := fun {j ob} hg => by
   match j, hg with
   | 0, hg => rw [← hh'] at hg; simp [getO] at hg; exact .inl ⟨rfl, hg.symm⟩
   | 1, hg => rw [q1] at hg; injection hg with hg; exact .inr ⟨rfl, hg.symm⟩
   | j + 2, hg => rw [← hh', getO_map] at hg; simp at hg
  have hel : (els.eraseIdx m).length = els.length - 1 := List.length_eraseIdx_of_lt (by omega)
  have hin : Inv G0 x' h' := {
   bgo := hi.bgo
   obj := fun j ob hg => by
    rcases hgl' hg with ⟨rfl, rfl⟩ | ⟨rfl, rfl⟩
    ·trivial
    ·refine ⟨putCells encU 0 d' arr, p1, ?_, by show _ ≤ x.κ 0; rw [hel]; omega, r4, r5, fun el hel => r6 el (List.mem_of_mem_eraseIdx hel), fun v hv => ?_, fun a k el c h1 h2 => ?_, (fun hf => by cases hf), r10⟩
     ·rw [show x'.κ 1 = x.κ 0 from rfl, ← r2]
      simp [putCells]
     ·obtain ⟨k, hk⟩ := List.getElem?_of_mem (Array.mem_toList_iff.2 hv)
      have hk' : (putCells encU 0 d' arr)[k]? = some v := by simpa using hk
      rw [put_get] at hk'
      obtain ⟨y, hy, rfl⟩ := Option.map_eq_some_iff.1 hk'
      split
      ·exact encU_one _
      ·exact r7 y (Array.mem_of_getElem? hy)
     ·have ha : a < els.length - 1 := by
       have := (List.getElem?_eq_some_iff.1 h1).1
       omega
      have h3 : els[if a < m then a else a + 1]? = some el := by
       rw [List.getElem?_eraseIdx] at h1
       by_cases c : a < m
       ·rw [if_pos c] at h1 ⊢; exact h1
       ·rw [if_neg c] at h1 ⊢; exact h1
      obtain ⟨v, h4, h5⟩ := r8 _ k el c h3 h2
      have hk0 : k = 0 := by
       have h6 := r6 el (List.mem_of_getElem? h3)
       have := (List.getElem?_eq_some_iff.1 h2).1
       omega
      subst hk0
      refine ⟨v, ?_, h5.mono (hext.sh o)⟩
      simp only [Nat.mul_one, Nat.add_zero] at h4 ⊢
      have h7 : a < arr.size := by omega
      rw [put_get, Array.getElem?_eq_getElem h7, Option.map_some, if_pos (by omega), hd'g a (by omega)]
      obtain ⟨h8, h9⟩ := hdg (if a < m then a else a + 1) (by split <;> omega)
      rw [encU_of h9, ← h8, h4]
   inj := fun i j oi oj gi gj di dj _ => by
    rcases hgl' gi with ⟨rfl, rfl⟩ | ⟨rfl, rfl⟩
    ·exact absurd rfl di
    ·rcases hgl' gj with ⟨rfl, rfl⟩ | ⟨rfl, rfl⟩
     ·exact absurd rfl dj
     ·rfl
   own := fun j ob hg hm q => own0 q
   sh := fun b q hS => by
    show b < w'.heap.size
    rw [p2]; exact hi.sh b q hS
   live := fun j ob hg q hq => by
    rcases hgl' hg with ⟨rfl, rfl⟩ | ⟨rfl, rfl⟩ <;> simp [Obj.refs] at hq
   glob := fun g j c hg => by simp [G0] at hg
   big := fun j d hg => by
    rcases hgl' hg with ⟨_, hd⟩ | ⟨_, hd⟩ <;> cases hd }
  refine ⟨x', rfl, by rw [hh']; exact hin, ?_, rfl, fun j a v h1 h2 => ?_, fun id hid => ?_⟩
  ·rw [hh, hh']
   exact {
    ext := hext
    size := Nat.le_of_eq p2.symm
    evo := fun j _ hj => by
     obtain ⟨ob, hob⟩ := Option.isSome_iff_exists.1 hj
     obtain ⟨rfl, rfl⟩ := hgl hob
     have q0 : getO h' 0 = some .dead := by rw [← hh']; rfl
     exact ⟨⟨(fun cs hc => by rw [q0] at hc; cases hc), (fun _ _ _ _ _ hc => by rw [q0] at hc; cases hc), (fun d hc => by rw [q0] at hc; cases hc)⟩, by rw [q0]; rfl⟩
    frame := fun b hb hm _ => hold b fun he => hm 0 _ g0 rfl he.symm
    sgrow := fun b q hS => .inl hS
    bfresh := fun j d b hj hb => by
     rcases hgl' hj with ⟨_, hd⟩ | ⟨_, hd⟩ <;> cases hd
    fresh := fun j ob hj hm => .inl ⟨0, _, g0, rfl, rfl⟩
    frow := fun j ob hj hm => .inl ⟨0, _, g0, trivial, fun _ => rfl, rfl⟩
    os := by show w'.os = _; rw [hw]; rfl
    tape := by show w'.tape = _; rw [hw]; rfl
    output := by show w'.output = _; rw [hw]; rfl
    nf := fun N hn => by
     show NF N w'
     exact NF.cells p1 (fun o _ h => by omega) (fun b hb => .inl (hold b hb)) hn }
  ·cases j with
   | zero =>
    simp at h1 h2
    subst h1 h2
    rw [hh']
    refine .row 1 _ _ trivial (fun e' s' o' f' l' hg => ?_) fun e' s' o' f' l' hg _ => rfl
    rw [q1] at hg
    injection hg with hg
    injection hg with _ _ _ _ hg
    subst hg
    omega
   | succ j => simp at h1
  ·simp only [refsL, AV.refs, List.append_nil, List.mem_singleton] at hid
   subst hid
   rw [hh', q1]
   rfl
end Go.Proofs.Ytdgfbfkjdflabaa
namespace Go.Proofs.Ytdgfbfkjdflabaa
open Go.Ev
theorem xok0 : XOk Try.prog G0 where
 ok := fun f args ins rs outs he hlt => by
  have he' : netX0 f args ins = some (rs, outs) := he
  unfold netX0 at he'
  rw [if_neg (by omega), if_neg (by omega), if_neg (by omega), if_neg (by omega), if_neg (by omega), if_neg (by omega)] at he'
  split at he'
  ·rename_i hf
   subst hf
   split at he'
   ·rename_i n i j e o els
    split at he'
    ·rename_i hc
     obtain ⟨c1, c2, c3, c4, c5⟩ := hc
     subst c2
     simp only [Option.some.injEq, Prod.mk.injEq] at he'
     obtain ⟨rfl, rfl⟩ := he'
     exact del_ok n i e o els c1 c3 c4
    ·cases he'
   ·cases he'
  ·cases he'
 pok := fun f args ins rs outs he hge => by
  have he' : netX0 f args ins = some (rs, outs) := he
  unfold netX0 at he'
  split at he'
  ·rename_i hf
   subst hf
   split at he'
   ·rename_i f t l
    split at he'
    ·rename_i hc
     simp only [Option.some.injEq, Prod.mk.injEq] at he'
     obtain ⟨rfl, rfl⟩ := he'
     exact look_lines l f t hc.1 hc.2
    ·cases he'
   ·cases he'
  split at he'
  ·rename_i hf
   subst hf
   split at he'
   ·rename_i f t g
    split at he'
    ·rename_i hc
     simp only [Option.some.injEq, Prod.mk.injEq] at he'
     obtain ⟨rfl, rfl⟩ := he'
     exact look_flags g f t hc.1 hc.2
    ·cases he'
   ·cases he'
  split at he'
  ·rename_i hf
   subst hf
   split at he'
   ·rename_i f t n l e o els
    split at he'
    ·rename_i hc
     split at he'
     ·rename_i ms hms
      simp only [Option.some.injEq, Prod.mk.injEq] at he'
      obtain ⟨rfl, rfl⟩ := he'
      obtain ⟨c1, rfl⟩ := hc
      have := unBs_ok hms
      subst this
      exact upd_lines l f t e o ms c1
     ·cases he'
    ·cases he'
   ·cases he'
  split at he'
  ·rename_i hf
   subst hf
   split at he'
   ·rename_i f t b g
    split at he'
    ·rename_i hc
     simp only [Option.some.injEq, Prod.mk.injEq] at he'
     obtain ⟨rfl, rfl⟩ := he'
     exact upd_flags g f t b hc
    ·cases he'
   ·cases he'
  split at he'
  ·rename_i hf
   subst hf
   split at he'
   ·simp only [Option.some.injEq, Prod.mk.injEq] at he'
    obtain ⟨rfl, rfl⟩ := he'
    exact make_lines
   ·cases he'
  split at he'
  ·rename_i hf
   subst hf
   split at he'
   ·simp only [Option.some.injEq, Prod.mk.injEq] at he'
    obtain ⟨rfl, rfl⟩ := he'
    exact make_flags
   ·cases he'
  split at he'
  ·rename_i hf
   subst hf
   exact absurd hge (by decide)
  ·cases he'
 enters := fun f args ins r he hlt => by
  have he' : netX0 f args ins = some r := he
  unfold netX0 at he'
  rw [if_neg (by omega), if_neg (by omega), if_neg (by omega), if_neg (by omega), if_neg (by omega), if_neg (by omega)] at he'
  split at he'
  ·rename_i hf
   subst hf
   obtain ⟨c, hc⟩ : ∃ c, Try.f22.body = some c := Option.isSome_iff_exists.1 (by kernel_rfl)
   exact ⟨Try.f22, c, Try.func22, by kernel_rfl, hc⟩
  ·cases he'
end Go.Proofs.Ytdgfbfkjdflabaa
namespace Go.Proofs.Ytdgfbfkjdflabaa
open Go.Ev
abbrev uA (ms : List (List C)) (l : Nat → Option (List (List UInt8))) (g : Nat → Bool) : St := ⟨[.ptr 3 0, .sl true ms, u_,u_,u_,u_,u_,u_,u_,u_,u_,u_,u_,u_,u_,u_,u_,u_,u_,u_,u_,u_,u_,u_,u_,u_,u_,u_,u_,u_,u_,u_,u_,u_,u_,u_,u_,u_,u_,u_,u_,u_,u_,u_,u_,u_,u_,u_,u_,u_,u_,u_,u_,u_,u_,u_,u_,u_,u_,u_,u_,u_], (hS none none l g)⟩
abbrev uB (ms : List (List C)) (l : Nat → Option (List (List UInt8))) (g : Nat → Bool) : St := ⟨[.ptr 3 0, .sl true ms, u_,u_,u_,i64 0, u_,u_,u_,u_,u_,u_,u_,u_,u_,u_,u_,u_,u_,u_,u_,u_,u_,u_,u_,u_,u_,u_,u_,u_,u_,u_,u_,u_,u_,u_,u_,u_,u_,u_,u_,u_,u_,u_,u_,u_,u_,u_,u_,u_,u_,u_,u_,u_,u_,u_,u_,u_,u_,u_,u_,u_], (hS none none l g)⟩
abbrev uA4 (ms : List (List C)) (l : Nat → Option (List (List UInt8))) (g : Nat → Bool) : St := ⟨[.ptr 3 0, .sl true ms, u_,u_,i64 0, u_,u_,u_,u_,u_,u_,u_,u_,u_,u_,u_,u_,u_,u_,u_,u_,u_,u_,u_,u_,u_,u_,u_,u_,u_,u_,u_,u_,u_,u_,u_,u_,u_,u_,u_,u_,u_,u_,u_,u_,u_,u_,u_,u_,u_,u_,u_,u_,u_,u_,u_,u_,u_,u_,u_,u_,u_], (hS none none l g)⟩
abbrev uB11 (ms : List (List C)) (l : Nat → Option (List (List UInt8))) (g : Nat → Bool) : St := ⟨[.ptr 3 0, .sl true ms, u_,u_,u_,i64 0, u_,u_,u_,u_,u_,.sl true ms, i64 ms.length, i64 0, u_,u_,u_,u_,u_,u_,u_,u_,u_,u_,u_,u_,u_,u_,u_,u_,u_,u_,u_,u_,u_,u_,u_,u_,u_,u_,u_,u_,u_,u_,u_,u_,u_,u_,u_,u_,u_,u_,u_,u_,u_,u_,u_,u_,u_,u_,u_,u_], (hS none none l g)⟩
abbrev uJ (n : Int) (l : Nat → Option (List (List UInt8))) (g : Nat → Bool) : St := ⟨[u_,u_,u_,u_,u_,i64 n, u_,u_,u_,u_,u_,u_,u_,u_,u_,u_,u_,u_,u_,u_,u_,u_,u_,u_,u_,u_,u_,u_,u_,u_,u_,u_,u_,u_,u_,u_,u_,u_,u_,u_,u_,u_,u_,u_,u_,u_,u_,u_,u_,u_,u_,u_,u_,u_,u_,u_,u_,u_,u_,u_,u_,u_], (hS none none l g)⟩
abbrev uD (n : Int) (ms : List (List C)) (i : Nat) (l : Nat → Option (List (List UInt8))) (g : Nat → Bool) (f t : Int) (c0 c3 c4 c5 c6 c7 c8 c9 c10 c11 c12 c13 c14 c15 c16 : C) : St := ⟨[.ptr 3 0, u_,u_,u_,u_,i64 n, u_,u_,.ptr 1 0, u_,u_,.sl true ms, i64 ms.length, i64 i, u_,u_,u_,u_,u_,u_,u_,u_,u_,u_,u_,u_,u_,u_,u_,u_,u_,u_,u_,u_,u_,u_,u_,u_,u_,u_,u_,u_,u_,u_,u_,u_,u_,u_,u_,u_,u_,u_,u_,u_,u_,u_,u_,u_,u_,u_,u_,u_], (hS (some (.var (vS f t c0 c3 c4 c5 c6 c7 c8 c9 c10 c11 c12 c13 c14 c15 c16))) (some (.var [i64 f, i64 t])) l g)⟩
attribute [local go_sem] ofC_canon ofC_age ofC_refs ofC_frz
theorem s0_ev (ms : List (List C)) (l : Nat → Option (List (List UInt8))) (g : Nat → Bool) : app tab G0 3 [] (ex tab G0 3 (.reg [] sq0) (uA ms l g)) = some (.normal, uA4 ms l g) := by
 simp (disch := omega) only [go_sem, seval, sq0]
theorem s1_ev (ms : List (List C)) (l : Nat → Option (List (List UInt8))) (g : Nat → Bool) : app tab G0 3 [] (ex tab G0 3 (.reg [] sq1) (uA ms l g)) = some (.normal, uB ms l g) := by
 simp (disch := omega) only [go_sem, seval, sq1]
theorem s2_ev (ms : List (List C)) (l : Nat → Option (List (List UInt8))) (g : Nat → Bool) : app tab G0 3 [] (ex tab G0 3 (.reg [] sq2) (uB ms l g)) = some (.normal, uB11 ms l g) := by
 simp (disch := omega) only [go_sem, seval, sq2]
theorem sT_ev (n : Int) (l : Nat → Option (List (List UInt8))) (g : Nat → Bool) : app tab G0 3 [] (ex tab G0 3 (.seq (.reg [] sq11) (.ret iSend_r)) (uJ n l g)) = some (.ret, wSend_R (i64 n) (hS none none l g)) := by
 simp (disch := omega) only [go_sem, seval, sq11]
theorem sD_ev (n : Int) (ms : List (List C)) (i : Nat) (l : Nat → Option (List (List UInt8))) (g : Nat → Bool) (f t : Int) (c0 c3 c4 c5 c6 c7 c8 c9 c10 c11 c12 c13 c14 c15 c16 : C) : app tab G0 3 [] (ex tab G0 3 (.exit 1 iSend_j1) (uD n ms i l g f t c0 c3 c4 c5 c6 c7 c8 c9 c10 c11 c12 c13 c14 c15 c16)) = some (.exit 1, uK n ms i l g) := by
 simp (disch := omega) only [go_sem, seval]
theorem sD_clean (n : Int) (ms : List (List C)) (i : Nat) (l : Nat → Option (List (List UInt8))) (g : Nat → Bool) (f t : Int) (c0 c3 c4 c5 c6 c7 c8 c9 c10 c11 c12 c13 c14 c15 c16 : C) : clean 3 iSend_j1 (uD n ms i l g f t c0 c3 c4 c5 c6 c7 c8 c9 c10 c11 c12 c13 c14 c15 c16) = uK n ms i l g := by
 have h := sD_ev n ms i l g f t c0 c3 c4 c5 c6 c7 c8 c9 c10 c11 c12 c13 c14 c15 c16
 rw [app_exit] at h
 have h2 : some (Ex.exit 1, clean 3 iSend_j1 (uD n ms i l g f t c0 c3 c4 c5 c6 c7 c8 c9 c10 c11 c12 c13 c14 c15 c16)) = some (Ex.exit 1, uK n ms i l g) := h
 injection h2 with h2
 injection h2
theorem nSend_cons {g : Nat → Bool} {e : List C} {r : List (List C)} {l lF : Nat → Option (List (List UInt8))} {n nF : Nat} (h : nSend g (e :: r) l n = some (nF, lF)) : ∃ (f t : Int) (c0 c3 c4 c5 c6 c7 c8 c9 c10 c11 c12 c13 c14 c15 c16 : C), e = eS f t c0 c3 c4 c5 c6 c7 c8 c9 c10 c11 c12 c13 c14 c15 c16 ∧ inI f = true ∧ inI t = true ∧ ((ofC true c0).cellOk = true ∧ (ofC true c3).cellOk = true ∧ (ofC true c4).cellOk = true ∧ (ofC true c5).cellOk = true ∧ (ofC true c6).cellOk = true ∧ (ofC true c7).cellOk = true ∧ (ofC true c8).cellOk = true ∧ (ofC true c9).cellOk = true ∧ (ofC true c10).cellOk = true ∧ (ofC true c11).cellOk = true ∧ (ofC true c12).cellOk = true ∧ (ofC true c13).cellOk = true ∧ (ofC true c14).cellOk = true ∧ (ofC true c15).cellOk = true ∧ (ofC true c16).cellOk = true) ∧
  ((∃ m, Ev tab G0 n_entry_Write [.agg (vS f t c0 c3 c4 c5 c6 c7 c8 c9 c10 c11 c12 c13 c14 c15 c16)] [] = some ([.sl true (eB m), .s .nilIface], []) ∧ ((isLine f t = true ∧ g (lnIx f t) = false ∧ ((l (lnIx f t)).getD []).length < 64 ∧ nSend g r (upd1 l (lnIx f t) (some ((l (lnIx f t)).getD [] ++ [m]))) n = some (nF, lF)) ∨
   (¬ (isLine f t = true ∧ g (lnIx f t) = false ∧ ((l (lnIx f t)).getD []).length < 64) ∧ nSend g r l (n + 1) = some (nF, lF)))) ∨ ∃ B ty ev, Ev tab G0 n_entry_Write [.agg (vS f t c0 c3 c4 c5 c6 c7 c8 c9 c10 c11 c12 c13 c14 c15 c16)] [] = some ([.sl true B, .s (.iface ty ev)], []) ∧ nSend g r l (n + 1) = some (nF, lF)) := by
 unfold nSend at h
 split at h
 ·rename_i f t xx h1 h2
  split at h
  ·rename_i hc
   obtain ⟨k1, k2, k3, k4⟩ := hc
   match e, k1 with
   | [c0, c1, c2, c3, c4, c5, c6, c7, c8, c9, c10, c11, c12, c13, c14, c15, c16], _ =>
    have hl : c1 = .sc (.int .i64 f) ∧ c2 = .sc (.int .i64 t) := by
     unfold lnOf at h1
     split at h1
     ·rename_i heq
      simp only [Option.some.injEq, Prod.mk.injEq] at h1
      obtain ⟨rfl, rfl⟩ := h1
      simp only [List.cons.injEq] at heq
      exact ⟨heq.2.1, heq.2.2.1⟩
     ·cases h1
    obtain ⟨rfl, rfl⟩ := hl
    simp only [List.all_cons, List.all_nil, Bool.and_true, Bool.and_eq_true] at k2
    obtain ⟨q0, _, _, q3, q4, q5, q6, q7, q8, q9, q10, q11, q12, q13, q14, q15, q16⟩ := k2
    refine ⟨f, t, c0, c3, c4, c5, c6, c7, c8, c9, c10, c11, c12, c13, c14, c15, c16, rfl, k3, k4, ⟨q0, q3, q4, q5, q6, q7, q8, q9, q10, q11, q12, q13, q14, q15, q16⟩, ?_⟩
    unfold wrOf at h2
    split at h2
    ·rename_i b hw
     cases hb : unB b with
     | none => rw [hb] at h2; cases h2
     | some m =>
      rw [hb] at h2
      injection h2 with h2
      subst h2
      have := unB_ok hb
      subst this
      refine .inl ⟨m, hw, ?_⟩
      simp only at h
      split at h
      ·rename_i hd
       exact .inl ⟨hd.1, hd.2.1, hd.2.2, h⟩
      ·rename_i hd
       exact .inr ⟨hd, h⟩
    ·rename_i B ty ev hw
     injection h2 with h2
     subst h2
     exact .inr ⟨B, ty, ev, hw, h⟩
    ·cases h2
  ·cases h
 ·cases h
theorem toS {ns : Nat} {x x' : Cx} {h h' : Heap} (s : Step (fun _ => True) x h x' h') : SStep ns x h x' h' :=
 { s with evo := fun id _ hs => s.evo id trivial hs }
theorem rel_act {G : Cf} {x : Cx} {st : St} {a a' : Act} (hs : RelS G x st a) (hsz : a'.tmps.size = a.tmps.size) (hv : ∀ i, st.t.getD i .undef = .undef ∨ a'.tmps.getD i undef = a.tmps.getD i undef) : RelS G x st a' where
 inv := hs.inv
 b0 := hs.b0
 size := hsz.trans hs.size
 vals := fun i hi => by
  rcases hv i with h | h
  ·rw [h]; exact .undef _
  ·rw [h]; exact hs.vals i hi
 live := hs.live
theorem gf0 : G0.gf = true → ∀ g, G0.G g = [] := fun _ _ => rfl
def ks62 (l : List Nat) : List Bool := (List.range 62).map fun i => l.contains i
theorem trP : trReg Try.prog (ops9.extract 0 7) true [] sq9 = some sq9 := by kernel_rfl
theorem all9' (i : Nat) (o : Oper) (hi : 7 ≤ i) (ho : ops9[i]? = some o) : (∃ e ∈ o.after, 7 ≤ e.on ∧ Region.binds .any e = true) ∨ ∀ j, j < 7 → ∃ e ∈ o.after, e.on = j ∧ Region.binds .any e = true := by
 have hlt : i < 12 := by
  have := (Array.getElem?_eq_some_iff.1 ho).1
  rw [ops9_size] at this
  exact this
 rw [at9 hlt] at ho
 injection ho with ho
 subst ho
 have h := List.all_eq_true.1 all9 (i - 7) (List.mem_range.2 (by omega))
 rw [show i - 7 + 7 = i by omega] at h
 simp only [Bool.or_eq_true] at h
 rcases h with h | h
 ·obtain ⟨e, h1, h2⟩ := List.any_eq_true.1 h
  simp only [Bool.and_eq_true, decide_eq_true_eq] at h2
  exact .inl ⟨e, by simpa using h1, h2.1, h2.2⟩
 ·refine .inr fun j hj => ?_
  obtain ⟨e, h1, h2⟩ := List.any_eq_true.1 (List.all_eq_true.1 h j (List.mem_range.2 hj))
  simp only [Bool.and_eq_true, decide_eq_true_eq] at h2
  exact ⟨e, by simpa using h1, h2.1, h2.2⟩
theorem write9 {id : Nat} {x : Cx} {a : Act} {n : Int} {ms : List (List C)} {i : Nat} {l : Nat → Option (List (List UInt8))} {g : Nat → Bool} {f t : Int} {c0 c3 c4 c5 c6 c7 c8 c9 c10 c11 c12 c13 c14 c15 c16 : C} {m : List UInt8} (hs : RelS G0 x (u8k n ms i l g f t c0 c3 c4 c5 c6 c7 c8 c9 c10 c11 c12 c13 c14 c15 c16 (eB m)) a) (hl : isLine f t = true) (hlen : ((l (lnIx f t)).getD []).length < 64) {Q : Exit → Act → World → Prop}
  (hQ : ∀ x' a', RelS G0 x' (uK n ms i (upd1 l (lnIx f t) (some ((l (lnIx f t)).getD [] ++ [m]))) g) a' → SStep 3 x (hS (some (.var (vS f t c0 c3 c4 c5 c6 c7 c8 c9 c10 c11 c12 c13 c14 c15 c16))) (some (.var [i64 f, i64 t])) l g) x' (hS none none (upd1 l (lnIx f t) (some ((l (lnIx f t)).getD [] ++ [m]))) g) → a'.defers = a.defers → Q .normal a' x'.w) : (Code.region id ops9 true).wp Try.prog Q a x.w := by
 have he := s9_ev n ms i l g f t c0 c3 c4 c5 c6 c7 c8 c9 c10 c11 c12 c13 c14 c15 c16 (eB m)
 obtain ⟨nn, hp2, he2⟩ := reg_of he
 have hF := evN_ok (G := G0) tabOk xok0 gf0 nn
 obtain ⟨h1, h2, h3⟩ := region_any (Q := onlyN fun a' w' => ∃ x', x'.w = w' ∧ RelS G0 x' (u9 n ms i l g f t c0 c3 c4 c5 c6 c7 c8 c9 c10 c11 c12 c13 c14 c15 c16 (eB m)) a' ∧ Step (fun _ => True) x (hS (some (.var (vS f t c0 c3 c4 c5 c6 c7 c8 c9 c10 c11 c12 c13 c14 c15 c16))) (some (.var [i64 f, i64 t])) l g) x' (hS (some (.var (vS f t c0 c3 c4 c5 c6 c7 c8 c9 c10 c11 c12 c13 c14 c15 c16))) (some (.var [i64 f, i64 t])) l g) ∧ a'.defers = a.defers) hF trP hs hp2 he2 (fun x' a' hs' hst hd => ⟨x', rfl, hs', hst, hd⟩)
 refine wp_region_any h1 ?_
 have hsz7 : (ops9.extract 0 7).size = 7 := by simp [ops9_size]
 have hn12 : ops9.size - 7 = 5 := by rw [ops9_size]
 have key := any_prefix (P := Try.prog) masks9 (n := 7) (by rw [ops9_size]; decide) all9' (fun i p hp => guard9 hp) (Q := Q) (G := fun a' w' => ∃ x', x'.w = w' ∧ RelS G0 x' (u9 n ms i l g f t c0 c3 c4 c5 c6 c7 c8 c9 c10 c11 c12 c13 c14 c15 c16 (eB m)) a' ∧ Step (fun _ => True) x (hS (some (.var (vS f t c0 c3 c4 c5 c6 c7 c8 c9 c10 c11 c12 c13 c14 c15 c16))) (some (.var [i64 f, i64 t])) l g) x' (hS (some (.var (vS f t c0 c3 c4 c5 c6 c7 c8 c9 c10 c11 c12 c13 c14 c15 c16))) (some (.var [i64 f, i64 t])) l g) ∧ a'.defers = a.defers) (fun a' w' hG => ?_) 7 (Array.replicate 7 false) a { x.w with drawn := x.w.drawn + 1 } (by simp) ?_ (by decide) ?_
 ·rw [hn12] at key
  have e1 : extL 5 (Array.replicate 7 false) = Array.replicate ops9.size false := by rw [ops9_size]; rfl
  rw [e1] at key
  rw [show ops9.size = 7 + 5 from ops9_size] at key ⊢
  exact key
 ·obtain ⟨x', rfl, hs', hst, hd⟩ := hG
  rw [hn12]
  have e52 := mp_inv (d := .lines l) (hs'.val 52) rfl
  have e53 := key_inv (hs'.val 53)
  have e56 : Rep x'.w x'.S (.sl [[.sl (eB m)]]) (a'.tmps.getD 56 undef) := by
   have h56 := hs'.val 56
   change RelV x' _ (.sl true [[.sl (eB m)]]) _ at h56
   generalize a'.tmps.getD 56 undef = u56 at h56
   cases h56 with
   | sl _ _ _ hr => exact hr.mono fun b o hb => ⟨hb.1, rfl⟩
  obtain ⟨v', s', w1, r1, rr, w2, r2, w3, r3, x6, rfl, hi6, hst6⟩ := add_line (id := 4) (l := l) (f := f) (t := t) (m := m) hs'.inv rfl hl hlen e56
  refine suffix9 e52 e53 rfl hs'.size r1 r2 r3 fun a6 z6 k6 d6 => ?_
  have h7 := hs'.step' hi6 hst6
  have h8 := keep_rel h7 (ks62 [0, 5, 8, 11, 12, 13])
  have h9 : RelS G0 x6 (uD n ms i (upd1 l (lnIx f t) (some ((l (lnIx f t)).getD [] ++ [m]))) g f t c0 c3 c4 c5 c6 c7 c8 c9 c10 c11 c12 c13 c14 c15 c16) a6 := by
   refine rel_act (a := a') h8 (z6.trans hs'.size.symm) fun j => ?_
   by_cases hj : j < 54
   ·exact .inr (k6 j hj)
   ·refine .inl ?_
    have : ∀ j, ¬ j < 54 → (uD n ms i (upd1 l (lnIx f t) (some ((l (lnIx f t)).getD [] ++ [m]))) g f t c0 c3 c4 c5 c6 c7 c8 c9 c10 c11 c12 c13 c14 c15 c16).t.getD j .undef = .undef := fun j hj => by
     obtain ⟨q, rfl⟩ : ∃ q, j = 54 + q := ⟨j - 54, by omega⟩
     match q with
     | 0 | 1 | 2 | 3 | 4 | 5 | 6 | 7 => rfl
     | q + 8 =>
      simp only [List.getD]
      rw [List.getElem?_eq_none (by show 62 ≤ _; omega)]
      rfl
    exact this j hj
  obtain ⟨c1, c2⟩ := clean_ok h9 3 iSend_j1
  rw [sD_clean] at c1 c2
  exact hQ x6 a6 c1 ((toS (hst.trans hst6)).trans c2) (d6.trans hd)
 ·exact ⟨by simp [extL, ops9_size], fun j o e _ hl _ _ => by
   rw [extL_getD] at hl
   by_cases hj : j < 7 <;> simp [Array.getD_eq_getD_getElem?, hj] at hl⟩
 ·rw [hsz7] at h3
  exact h3
end Go.Proofs.Ytdgfbfkjdflabaa
namespace Go.Proofs.Ytdgfbfkjdflabaa
open Go.Ev
theorem b0S_inv {c : Code} (h : trIR Try.prog c iSend_b0 = some iSend_b0) : ∃ r3 kk sk r4 r5 r6 cX r9 r10, c = .seq r3 (.seq (.cond kk sk (.exit 0)) (.seq (.block 1 (.seq r4 (.seq r5 (.seq r6 (.seq cX r9))))) r10)) ∧ trO kk = .t 14 ∧ trIR Try.prog sk .skip = some .skip ∧ trIR Try.prog r3 (.reg [] sq3) = some (.reg [] sq3) ∧ trIR Try.prog r4 (.reg [] sq4) = some (.reg [] sq4) ∧ trIR Try.prog r5 (.reg [] sq5) = some (.reg [] sq5) ∧ trIR Try.prog r6 (.reg [] sq6) = some (.reg [] sq6) ∧ trIR Try.prog cX sqX = some sqX ∧ trIR Try.prog r10 (.reg [] sq10) = some (.reg [] sq10) := by
 obtain ⟨r3, ca, rfl, h3, g1⟩ := trIR_seq h
 obtain ⟨c1, c2, rfl, hc, g2⟩ := trIR_seq g1
 obtain ⟨kk, sk, ex, rfl, hk, hs, he⟩ := trIR_cond hc
 obtain ⟨rfl, _⟩ := trIR_exit he
 obtain ⟨bl, r10, rfl, g3, h10⟩ := trIR_seq g2
 obtain ⟨cb, rfl, _, g4⟩ := trIR_block g3
 obtain ⟨r4, cc, rfl, h4, g5⟩ := trIR_seq g4
 obtain ⟨r5, cd, rfl, h5, g6⟩ := trIR_seq g5
 obtain ⟨r6, ce, rfl, h6, g7⟩ := trIR_seq g6
 obtain ⟨cX, r9, rfl, hX, _⟩ := trIR_seq g7
 exact ⟨r3, kk, sk, r4, r5, r6, cX, r9, r10, rfl, hk.symm, hs, h3, h4, h5, h6, hX, h10⟩
theorem turnS {y4 y5 y6 yX y9 : Code} {id : Nat} {x : Cx} {a : Act} {n : Int} {ms : List (List C)} {i : Nat} {l : Nat → Option (List (List UInt8))} {g : Nat → Bool} {f t : Int} {c0 c3 c4 c5 c6 c7 c8 c9 c10 c11 c12 c13 c14 c15 c16 : C} (h4 : trIR Try.prog y4 (.reg [] sq4) = some (.reg [] sq4)) (h5 : trIR Try.prog y5 (.reg [] sq5) = some (.reg [] sq5)) (h6 : trIR Try.prog y6 (.reg [] sq6) = some (.reg [] sq6)) (hX : trIR Try.prog yX sqX = some sqX) (h9 : y9 = .region id ops9 true)
  (hs : RelS G0 x (uK n ms i l g) a) (hz : szOk 17 ms = true) (hi : i < ms.length) (hg : ms[i]? = some (eS f t c0 c3 c4 c5 c6 c7 c8 c9 c10 c11 c12 c13 c14 c15 c16)) (hn : 0 ≤ n ∧ n ≤ 1048576) (hf : inI f = true) (ht : inI t = true) (ho : (ofC true c0).cellOk = true ∧ (ofC true c3).cellOk = true ∧ (ofC true c4).cellOk = true ∧ (ofC true c5).cellOk = true ∧ (ofC true c6).cellOk = true ∧ (ofC true c7).cellOk = true ∧ (ofC true c8).cellOk = true ∧ (ofC true c9).cellOk = true ∧ (ofC true c10).cellOk = true ∧ (ofC true c11).cellOk = true ∧ (ofC true c12).cellOk = true ∧ (ofC true c13).cellOk = true ∧ (ofC true c14).cellOk = true ∧ (ofC true c15).cellOk = true ∧ (ofC true c16).cellOk = true) {nF : Nat} {lF : Nat → Option (List (List UInt8))} {r : List (List C)} {n0 : Nat} (hn0 : n = n0)
  (hcase : (∃ m, Ev tab G0 n_entry_Write [.agg (vS f t c0 c3 c4 c5 c6 c7 c8 c9 c10 c11 c12 c13 c14 c15 c16)] [] = some ([.sl true (eB m), .s .nilIface], []) ∧ ((isLine f t = true ∧ g (lnIx f t) = false ∧ ((l (lnIx f t)).getD []).length < 64 ∧ nSend g r (upd1 l (lnIx f t) (some ((l (lnIx f t)).getD [] ++ [m]))) n0 = some (nF, lF)) ∨
   (¬ (isLine f t = true ∧ g (lnIx f t) = false ∧ ((l (lnIx f t)).getD []).length < 64) ∧ nSend g r l (n0 + 1) = some (nF, lF)))) ∨ ∃ B ty ev, Ev tab G0 n_entry_Write [.agg (vS f t c0 c3 c4 c5 c6 c7 c8 c9 c10 c11 c12 c13 c14 c15 c16)] [] = some ([.sl true B, .s (.iface ty ev)], []) ∧ nSend g r l (n0 + 1) = some (nF, lF))
  {Q : Exit → Act → World → Prop} (hQ : ∀ (e : Ex) (x' : Cx) (a' : Act) (n1 : Nat) (l' : Nat → Option (List (List UInt8))), (e = .normal ∨ e = .exit 1) → n1 ≤ n0 + 1 → nSend g r l' n1 = some (nF, lF) → RelS G0 x' (uK (n1 : Int) ms i l' g) a' → SStep 3 x (hS none none l g) x' (hS none none l' g) → a'.defers = a.defers → Q (exM e) a' x'.w) :
  (Code.seq y4 (.seq y5 (.seq y6 (.seq yX y9)))).wp Try.prog Q a x.w := by
 obtain ⟨o0, o3, o4, o5, o6, o7, o8, o9, o10, o11, o12, o13, o14, o15, o16⟩ := ho
 refine wp_seq ?_
 refine seg_ok (tab := tab) tabOk xok0 gf0 h4 hs (s4_ev n ms i l g f t c0 c3 c4 c5 c6 c7 c8 c9 c10 c11 c12 c13 c14 c15 c16 hz hi hg o0 o3 o4 o5 o6 o7 o8 o9 o10 o11 o12 o13 o14 o15 o16) fun x4 a4 r4 s4 d4 => ?_
 have r4' : RelS G0 x4 (u4k n ms i l g f t c0 c3 c4 c5 c6 c7 c8 c9 c10 c11 c12 c13 c14 c15 c16) a4 := keep_rel r4 (ks62 [0, 5, 7, 11, 12, 13])
 refine wp_seq ?_
 refine seg_ok (tab := tab) tabOk xok0 gf0 h5 r4' (s5_ev n ms i l g f t c0 c3 c4 c5 c6 c7 c8 c9 c10 c11 c12 c13 c14 c15 c16) fun x5 a5 r5 s5 d5 => ?_
 have r5' : RelS G0 x5 (u5k n ms i l g f t c0 c3 c4 c5 c6 c7 c8 c9 c10 c11 c12 c13 c14 c15 c16) a5 := keep_rel r5 (ks62 [0, 5, 7, 8, 11, 12, 13])
 refine wp_seq ?_
 have out : ∀ (e : Ex) (x' : Cx) (a' : Act), (e = .normal ∨ e = .exit 1) → nSend g r l (n0 + 1) = some (nF, lF) → RelS G0 x' (uK (n + 1) ms i l g) a' → SStep 3 x (hS none none l g) x' (hS none none l g) → a'.defers = a.defers → Q (exM e) a' x'.w := fun e x' a' he hns hr hst hd => hQ e x' a' (n0 + 1) l he (Nat.le_refl _) hns (by rw [show ((n0 + 1 : Nat) : Int) = n + 1 by omega]; exact hr) hst hd
 rcases hcase with ⟨m, hw, hc⟩ | ⟨B, ty, ev, hw, hns⟩
 ·refine seg_ok (tab := tab) tabOk xok0 gf0 h6 r5' (s6_ev n ms i l g f t c0 c3 c4 c5 c6 c7 c8 c9 c10 c11 c12 c13 c14 c15 c16 (eB m) .nilIface hw) fun x6 a6 r6 s6 d6 => ?_
  have r6' : RelS G0 x6 (u6k n ms i l g f t c0 c3 c4 c5 c6 c7 c8 c9 c10 c11 c12 c13 c14 c15 c16 (eB m) .nilIface) a6 := keep_rel r6 (ks62 [0, 5, 7, 8, 9, 10, 11, 12, 13])
  have s6' := (s4.trans s5).trans s6
  have d6' : a6.defers = a.defers := d6.trans (d5.trans d4)
  refine wp_seq ?_
  rcases hc with ⟨k1, k2, k3, hns⟩ | ⟨hc, hns⟩
  ·refine seg_ok (tab := tab) tabOk xok0 gf0 hX r6' (sX_on n ms i l g f t c0 c3 c4 c5 c6 c7 c8 c9 c10 c11 c12 c13 c14 c15 c16 (eB m) _ hf ht ⟨k1, k2⟩ rfl k3) fun x7 a7 r7 s7 d7 => ?_
   have r7' : RelS G0 x7 (u8k n ms i l g f t c0 c3 c4 c5 c6 c7 c8 c9 c10 c11 c12 c13 c14 c15 c16 (eB m)) a7 := keep_rel r7 (ks62 [0, 5, 8, 9, 11, 12, 13])
   subst h9
   refine write9 r7' k1 k3 fun x8 a8 r8 s8 d8 => ?_
   exact hQ .normal x8 a8 n0 _ (.inl rfl) (by omega) hns (by rw [← hn0]; exact r8) ((s6'.trans s7).trans s8) (d8.trans (d7.trans d6'))
  ·by_cases hcut : (!isLine f t || g (lnIx f t)) = true
   ·refine seg_ok (tab := tab) tabOk xok0 gf0 hX r6' (sX_cut n ms i l g f t c0 c3 c4 c5 c6 c7 c8 c9 c10 c11 c12 c13 c14 c15 c16 (eB m) hn hf ht hcut) fun x7 a7 r7 s7 d7 => ?_
    exact out (.exit 1) x7 a7 (.inr rfl) hns r7 (s6'.trans s7) (d7.trans d6')
   ·have hcut' : isLine f t = true ∧ g (lnIx f t) = false := by
     cases h1 : isLine f t <;> cases h2 : g (lnIx f t) <;> simp [h1, h2] at hcut ⊢
    have hfull : 64 ≤ ((l (lnIx f t)).getD []).length := Nat.le_of_not_lt fun h => hc ⟨hcut'.1, hcut'.2, h⟩
    refine seg_ok (tab := tab) tabOk xok0 gf0 hX r6' (sX_full n ms i l g f t c0 c3 c4 c5 c6 c7 c8 c9 c10 c11 c12 c13 c14 c15 c16 (eB m) hn _ hf ht hcut' rfl hfull) fun x7 a7 r7 s7 d7 => ?_
    exact out (.exit 1) x7 a7 (.inr rfl) hns r7 (s6'.trans s7) (d7.trans d6')
 ·refine seg_ok (tab := tab) tabOk xok0 gf0 h6 r5' (s6_ev n ms i l g f t c0 c3 c4 c5 c6 c7 c8 c9 c10 c11 c12 c13 c14 c15 c16 B (.iface ty ev) hw) fun x6 a6 r6 s6 d6 => ?_
  have r6' : RelS G0 x6 (u6k n ms i l g f t c0 c3 c4 c5 c6 c7 c8 c9 c10 c11 c12 c13 c14 c15 c16 B (.iface ty ev)) a6 := keep_rel r6 (ks62 [0, 5, 7, 8, 9, 10, 11, 12, 13])
  refine wp_seq ?_
  refine seg_ok (tab := tab) tabOk xok0 gf0 hX r6' (sX_err n ms i l g f t c0 c3 c4 c5 c6 c7 c8 c9 c10 c11 c12 c13 c14 c15 c16 B ty ev hn) fun x7 a7 r7 s7 d7 => ?_
  exact out (.exit 1) x7 a7 (.inr rfl) hns r7 (((s4.trans s5).trans s6).trans s7) (d7.trans (d6.trans (d5.trans d4)))
theorem loopS {c : Code} {id : Nat} (ht : trIR Try.prog c iSend_b0 = some iSend_b0) (hr : cAt c [1, 1, 0, 0, 1, 1, 1, 1] = .region id ops9 true) {x : Cx} {a : Act} {ms : List (List C)} {l lF : Nat → Option (List (List UInt8))} {g : Nat → Bool} {nF : Nat} (hs : RelS G0 x (uK 0 ms 0 l g) a) (hlen : ms.length ≤ 1048576) (hz : szOk 17 ms = true) (hns : nSend g ms l 0 = some (nF, lF))
  {Q : Exit → Act → World → Prop} (hQ : ∀ x' a', RelS G0 x' (uJ nF lF g) a' → SStep 3 x (hS none none l g) x' (hS none none lF g) → a'.defers = a.defers → Q (.exit 0) a' x'.w) : (Code.loop c).wp Try.prog Q a x.w := by
 obtain ⟨r3, kk, sk, y4, y5, y6, yX, y9, y10, rfl, hkk, hsk, h3, h4, h5, h6, hX, h10⟩ := b0S_inv ht
 simp only [cAt, if_true, if_false, Nat.one_ne_zero] at hr
 refine wp_loop_ghost (fun N a' w' => ∃ x' i n l', x'.w = w' ∧ RelS G0 x' (uK ((n : Nat) : Int) ms i l' g) a' ∧ SStep 3 x (hS none none l g) x' (hS none none l' g) ∧ a'.defers = a.defers ∧ i + N = ms.length ∧ n ≤ i ∧ nSend g (ms.drop i) l' n = some (nF, lF)) ms.length
  ⟨x, 0, 0, l, rfl, hs, Step.refl _ _ _, rfl, by simp, Nat.le_refl _, by simpa using hns⟩ ?_
 rintro N a1 w1 ⟨x1, i, n, l1, rfl, hs1, st1, d1, hk, hni, hns1⟩
 refine wp_seq ?_
 refine seg_ok (tab := tab) tabOk xok0 gf0 h3 hs1 (s3_ev n ms i l1 g) fun x2 a2 hs2 st2 d2 => ?_
 have hv := hs2.opd kk
 rw [hkk] at hv
 by_cases c : (i : Int) < (ms.length : Int)
 ·have hv' : RelV x2 (hS none none l1 g) (.s (.bool (decide ((i : Int) < (ms.length : Int))))) (a2.eval kk) := hv
  rw [decide_eq_true c] at hv'
  have hi : i < ms.length := by exact_mod_cast c
  refine wp_seq ?_
  refine wp_cond_true hv'.s_inv ?_
  have hs2' : RelS G0 x2 (uK n ms i l1 g) a2 := keep_rel hs2 iSend_k0
  refine seg_ok (tab := tab) (ns := 3) (e := .normal) (st' := uK n ms i l1 g) tabOk xok0 gf0 hsk hs2' rfl fun x3 a3 hs3 st3 d3 => ?_
  have hdrop : ms.drop i = ms[i] :: ms.drop (i + 1) := List.drop_eq_getElem_cons hi
  rw [hdrop] at hns1
  obtain ⟨f, t, c0, c3, c4, c5, c6, c7, c8, c9, c10, c11, c12, c13, c14, c15, c16, he, hf, ht', ho, hcase⟩ := nSend_cons hns1
  refine wp_seq (wp_block ?_)
  refine turnS h4 h5 h6 hX hr hs3 hz hi (by rw [List.getElem?_eq_getElem hi, he]) ⟨by omega, by omega⟩ hf ht' ho rfl hcase fun e x8 a8 n8 l8 hex hle8 hns8 r8 s8 d8 => ?_
  have fin10 : ∀ QQ : Exit → Act → World → Prop, (∀ x9 a9, (∃ N', N' < N ∧ ∃ x' i n l', x'.w = x9.w ∧ RelS G0 x' (uK ((n : Nat) : Int) ms i l' g) a9 ∧ SStep 3 x (hS none none l g) x' (hS none none l' g) ∧ a9.defers = a.defers ∧ i + N' = ms.length ∧ n ≤ i ∧ nSend g (ms.drop i) l' n = some (nF, lF)) → QQ .normal a9 (Cx.w x9)) → y10.wp Try.prog QQ a8 x8.w := fun QQ hQQ => by
   refine seg_ok (tab := tab) tabOk xok0 gf0 h10 r8 (s10_ev n8 ms i l8 g (by omega)) fun x9 a9 r9 s9 d9 => ?_
   refine hQQ x9 a9 ⟨N - 1, by omega, x9, i + 1, n8, l8, rfl, ?_, (((st1.trans st2).trans st3).trans s8).trans s9, d9.trans (d8.trans (d3.trans (d2.trans d1))), by omega, by omega, hns8⟩
   have h := keep_rel r9 iSend_k0
   exact h
  rcases hex with rfl | rfl
  ·exact fin10 _ fun x9 a9 h => h
  ·exact fin10 _ fun x9 a9 h => h
 ·have hv' : RelV x2 (hS none none l1 g) (.s (.bool (decide ((i : Int) < (ms.length : Int))))) (a2.eval kk) := hv
  rw [decide_eq_false c] at hv'
  refine wp_seq ?_
  refine wp_cond_false hv'.s_inv ?_
  refine wp_exit ?_
  have hi : i = ms.length := by
   have : ¬ i < ms.length := fun h => c (by exact_mod_cast h)
   omega
  subst hi
  rw [List.drop_length] at hns1
  simp only [nSend, Option.some.injEq, Prod.mk.injEq] at hns1
  obtain ⟨rfl, rfl⟩ := hns1
  exact hQ x2 a2 (keep_rel hs2 iSend_j0) (st1.trans st2) (d2.trans d1)
end Go.Proofs.Ytdgfbfkjdflabaa
namespace Go.Proofs.Ytdgfbfkjdflabaa
open Go.Ev
theorem contract_Send {ms : List (List C)} {l lF : Nat → Option (List (List UInt8))} {g : Nat → Bool} {nF : Nat} (hlen : ms.length ≤ 1048576) (hz : szOk 17 ms = true) (hns : nSend g ms l 0 = some (nF, lF)) : Contract Try.prog G0 8 [.ptr 0 0, .sl true ms] [oN, oL l, oF g] [i64 nF] [oN, oL lF, oF g] := by
 obtain ⟨c, hbody, htr, hres, _, hnt⟩ := trFn_inv okSend
 have hc : bodyS = c := by
  have := bodyS_is.symm.trans hbody
  injection this
 have hreg := reg9
 rw [hc] at hreg
 clear hc
 intro x vals hB hinv hal har hlv
 refine calls_of_wp Try.func8 hbody ?_
 clear hbody
 have hst0 := start_ok (fn := iSend) hnt hB hinv hal har hlv
 obtain ⟨r0, ca, rfl, k0, g1⟩ := trIR_seq htr
 obtain ⟨r1, cb, rfl, k1, g2⟩ := trIR_seq g1
 obtain ⟨cc, ct, rfl, g3, kT⟩ := trIR_seq g2
 obtain ⟨r2, cd, rfl, k2, g4⟩ := trIR_seq g3
 obtain ⟨ce, rfl, _, g5⟩ := trIR_block g4
 obtain ⟨cl, rfl, _, kL⟩ := trIR_loop g5
 simp only [cAt, if_true, if_false, Nat.one_ne_zero] at hreg
 have h0 : RelS G0 (x.up 3) (uA ms l g) _ := keep_rel hst0 (ks62 [0, 1])
 refine wp_seq ?_
 refine seg_ok (x := x.up 3) (tab := tab) tabOk xok0 gf0 k0 h0 (s0_ev ms l g) fun x1 a1 h1 s1 d1 => ?_
 have h1' : RelS G0 x1 (uA ms l g) a1 := keep_rel h1 (ks62 [0, 1])
 refine wp_seq ?_
 refine seg_ok (tab := tab) tabOk xok0 gf0 k1 h1' (s1_ev ms l g) fun x2 a2 h2 s2 d2 => ?_
 refine wp_seq (wp_seq ?_)
 refine seg_ok (tab := tab) tabOk xok0 gf0 k2 h2 (s2_ev ms l g) fun x3 a3 h3 s3 d3 => ?_
 have h3' : RelS G0 x3 (uK 0 ms 0 l g) a3 := keep_rel h3 iSend_k0
 refine wp_block ?_
 refine loopS kL hreg h3' hlen hz hns fun x4 a4 h4 s4 d4 => ?_
 refine seg_ok (tab := tab) tabOk xok0 gf0 kT h4 (sT_ev nF lF g) fun x5 a5 h5 s5 d5 => ?_
 have tt : SStep iSend.ns (x.up iSend.ns) (Ev.start iSend [.ptr 0 0, .sl true ms] [oN, oL l, oF g]).h x5 (wSend_R (i64 nF) (hS none none lF g)).h := (((s1.trans s2).trans s3).trans s4).trans s5
 obtain ⟨us, hrun, x6, hw, hpost⟩ := finish_ok (P := Try.prog) (fn := iSend) (ins := [oN, oL l, oF g]) (rs := [i64 nF]) (outs := [oN, oL lF, oF g]) (func := Try.f8) h5 tt hres rfl
 exact ⟨d5.trans (d4.trans (d3.trans (d2.trans d1))), mkRes us, hrun, us, rfl, x6, hw, hpost⟩
end Go.Proofs.Ytdgfbfkjdflabaa
namespace Go.Proofs.Ytdgfbfkjdflabaa
open Go.Ev
theorem part_ok {P : Program} {G : Cf} {F : FnEv} (hF : FnsOk P G F) {ops : Array Oper} {Q : Exit → Act → World → Prop} {rest : List Nat} : ∀ (qs : List Opr) (b : Nat) {x : Cx} {st st' : St} {a : Act}, (∀ j, j < qs.length → ∃ o an, ops[b + j]? = some o ∧ trOpr P ops o an = some (opAt qs j)) → RelS G x st a → evOps G F qs st = some st' →
  (∀ x' a', RelS G x' st' a' → Step (fun _ => True) x st.h x' st'.h → a'.defers = a.defers → wpOps P ops Q rest a' x'.w) → wpOps P ops Q (List.range' b qs.length ++ rest) a x.w
 | [], b, x, st, st', a, htr, hs, he, hQ => by
  simp only [evOps, Option.some.injEq] at he
  subst he
  exact hQ x a hs (Step.refl _ _ _) rfl
 | q :: qs, b, x, st, st', a, htr, hs, he, hQ => by
  simp only [evOps] at he
  split at he
  ·rename_i s1 h1
   obtain ⟨o, an, ho, ht⟩ := htr 0 (by simp)
   rw [List.length_cons, List.range'_succ, List.cons_append, wpOps_cons]
   refine evOp_ok hF (by simpa using ho) ht hs (by simpa [opAt] using h1) fun x1 a1 hs1 hst1 hd1 => ?_
   refine part_ok hF qs (b + 1) (fun j hj => ?_) hs1 he fun x2 a2 hs2 hst2 hd2 => hQ x2 a2 hs2 (hst1.trans hst2) (hd2.trans hd1)
   obtain ⟨o, an, ho, ht⟩ := htr (j + 1) (by simp; omega)
   exact ⟨o, an, by rw [show b + 1 + j = b + (j + 1) by omega]; exact ho, by simpa [opAt] using ht⟩
  ·simp at he
theorem ops_of {G : Cf} {tab : Nat → Option Ev.Fn} {ns : Nat} {pairs : List (Nat × Nat)} {qs : List Opr} {st st' : St} (h : app tab G ns [] (ex tab G ns (.reg pairs qs) st) = some (.normal, st')) : ∃ n, evOps G (evN tab G n) qs st = some st' := by
 obtain ⟨n, _, h2⟩ := reg_of h
 exact ⟨n, h2⟩
end Go.Proofs.Ytdgfbfkjdflabaa
namespace Go.Proofs.Ytdgfbfkjdflabaa
open Go.Ev
structure Free (r : Nat) (x : Cx) (h : Heap) : Prop where
 lt : r < x.w.heap.size
 ph : ∀ id o, getO h id = some o → o ≠ .dead → x.φ id ≠ r
 s : ∀ o, ¬ x.S r o
 om : ∀ id d, getO h id = some (.big d) → ¬ x.Ω id r
theorem notdead {o : Ev.Obj} (h : o ≠ .dead) : o.mut ∨ o.isRow := by
 cases o with
 | dead => exact absurd rfl h
 | var _ => exact .inl trivial
 | big _ => exact .inl trivial
 | row _ _ _ _ _ => exact .inr trivial
theorem mut_nd {o : Ev.Obj} (h : o.mut) : o ≠ .dead := fun he => by subst he; exact h
theorem row_nd {o : Ev.Obj} (h : o.isRow) : o ≠ .dead := fun he => by subst he; exact h
theorem stepFrom {x x' : Cx} {h h' : Heap} {D : Nat → Prop} (st : Step D x h x' h') {id : Nat} {o : Ev.Obj} (hg : getO h' id = some o) (hd : o ≠ .dead) : (∃ i0 o0, getO h i0 = some o0 ∧ o0 ≠ .dead ∧ x'.φ id = x.φ i0) ∨ x.w.heap.size ≤ x'.φ id := by
 rcases notdead hd with hm | hr
 ·rcases st.fresh id o hg hm with ⟨i0, o0, h1, h2, h3⟩ | h
  ·exact .inl ⟨i0, o0, h1, mut_nd h2, h3⟩
  ·exact .inr h
 ·rcases st.frow id o hg hr with ⟨i0, o0, h1, h2, _, h3⟩ | h
  ·exact .inl ⟨i0, o0, h1, row_nd h2, h3⟩
  ·exact .inr h
theorem Free.step {r : Nat} {x x' : Cx} {h h' : Heap} {D : Nat → Prop} (f : Free r x h) (st : Step D x h x' h') : Free r x' h' ∧ x'.w.heap[r]? = x.w.heap[r]? := by
 have hfr := st.frame r f.lt (fun id o hg hm => f.ph id o hg (mut_nd hm)) f.om
 refine ⟨⟨Nat.lt_of_lt_of_le f.lt st.size, fun id o hg hd hp => ?_, fun o hs => ?_, fun id d hg hO => ?_⟩, hfr⟩
 ·rcases stepFrom st hg hd with ⟨i0, o0, h1, h2, h3⟩ | h
  ·exact f.ph i0 o0 h1 h2 (h3 ▸ hp)
  ·have := f.lt; omega
 ·rcases st.sgrow r o hs with h1 | ⟨id, ob, h1, h2, _, h3⟩ | h1 | ⟨id, d, h1, h2⟩
  ·exact f.s o h1
  ·exact f.ph id ob h1 (row_nd h2) h3
  ·have := f.lt; omega
  ·exact f.om id d h1 h2
 ·rcases st.bfresh id d r hg hO with ⟨i0, d0, h1, h2⟩ | h1 | ⟨i0, o0, h1, h2, _, h3⟩
  ·exact f.om i0 d0 h1 h2
  ·have := f.lt; omega
  ·exact f.ph i0 o0 h1 (row_nd h2) h3
theorem touch {r : Nat} {x0 x : Cx} {h0 h : Heap} {D : Nat → Prop} (st : Step D x0 h0 x h) (hi : Inv G0 x h) (f : Free r x h) (hr : x0.w.heap.size ≤ r) {w' : World} (hsz : w'.heap.size = x.w.heap.size) (hold : ∀ b, b ≠ r → w'.heap[b]? = x.w.heap[b]?) (hos : w'.os = x.w.os) (htape : w'.tape = x.w.tape) (hout : w'.output = x.w.output) (hnf : ∀ N, NF N x.w → NF N w') :
  Inv G0 { x with w := w' } h ∧ Step D x0 h0 { x with w := w' } h ∧ Free r { x with w := w' } h ∧ Ext x { x with w := w' } := by
 have hcell : ∀ b o, x.S b o → w'.cell? ⟨b, o, none⟩ = x.w.cell? ⟨b, o, none⟩ := fun b o hs => by
  have : b ≠ r := fun he => f.s o (he ▸ hs)
  simp only [World.cell?, hold b this]
 have hext : Ext x { x with w := w' } := ⟨rfl, rfl, fun b o hs => ⟨hs, hcell b o hs⟩⟩
 refine ⟨?_, ?_, ⟨by show r < w'.heap.size; rw [hsz]; exact f.lt, f.ph, f.s, f.om⟩, hext⟩
 ·exact {
   bgo := hi.bgo
   obj := fun id o hg => by
    by_cases hd : o = .dead
    ·subst hd; trivial
    ·exact (hi.obj id o hg).mono hext (hold _ (f.ph id o hg hd)) rfl rfl (fun j _ => .same rfl rfl rfl) fun d hd2 => by
      subst hd2
      exact ⟨rfl, fun c hc => hold c fun he => f.om id d hg (he ▸ hc), fun _ _ _ h => h⟩
   inj := hi.inj
   own := hi.own
   sh := fun b o hs => by show b < w'.heap.size; rw [hsz]; exact hi.sh b o hs
   live := hi.live
   glob := fun g j c hg => by simp [G0] at hg
   big := fun id d hg b hb => by
    obtain ⟨h1, h2, h3⟩ := hi.big id d hg b hb
    exact ⟨by show b < w'.heap.size; rw [hsz]; exact h1, h2, h3⟩ }
 ·exact {
   ext := st.ext.trans hext
   size := by show x0.w.heap.size ≤ w'.heap.size; rw [hsz]; exact st.size
   evo := fun id hD hs => ⟨(st.evo id hD hs).1.trans (.same rfl rfl rfl), (st.evo id hD hs).2⟩
   frame := fun b hb h1 h2 => (hold b (by omega)).trans (st.frame b hb h1 h2)
   sgrow := st.sgrow
   bfresh := st.bfresh
   fresh := st.fresh
   frow := st.frow
   os := hos.trans st.os
   tape := htape.trans st.tape
   output := hout.trans st.output
   nf := fun N hn => hnf N (st.nf N hn) }
theorem unhide {D : Nat → Prop} {x x' : Cx} {h hh h' h2 : Heap} {ns : Nat} (hi : Inv G0 x h) (hi' : Inv G0 x' h') (st : Step D x hh x' h') (hhh : ∀ id, getO hh id = if ns ≤ id then none else getO h id) (hh' : ∀ id, ns ≤ id → getO h' id = none) (hh2 : ∀ id, getO h2 id = if ns ≤ id then getO h id else getO h' id)
  (hcl : ∀ id o, ns ≤ id → getO h id = some o → ∀ j ∈ o.refs, ns ≤ j) :
  let x2 : Cx := { x' with φ := fun s => if ns ≤ s then x.φ s else x'.φ s, κ := fun s => if ns ≤ s then x.κ s else x'.κ s, Ω := fun s => if ns ≤ s then x.Ω s else x'.Ω s }
  Inv G0 x2 h2 ∧ SStep ns x h x2 h2 := by
 intro x2
 have up : ∀ {id o}, getO hh id = some o → getO h id = some o ∧ ¬ ns ≤ id := fun {id o} hg => by
  rw [hhh] at hg
  split at hg
  ·cases hg
  ·rename_i c; exact ⟨hg, c⟩
 have low : ∀ {id o}, getO h2 id = some o → ¬ ns ≤ id → getO h' id = some o := fun {id o} hg c => by rwa [hh2, if_neg c] at hg
 have hgh : ∀ {id o}, getO h2 id = some o → ns ≤ id → getO h id = some o := fun {id o} hg c => by rwa [hh2, if_pos c] at hg
 have pL : ∀ {id}, ¬ ns ≤ id → x2.φ id = x'.φ id := fun {id} c => if_neg c
 have pH : ∀ {id}, ns ≤ id → x2.φ id = x.φ id := fun {id} c => if_pos c
 have kL : ∀ {id}, ¬ ns ≤ id → x2.κ id = x'.κ id := fun {id} c => if_neg c
 have kH : ∀ {id}, ns ≤ id → x2.κ id = x.κ id := fun {id} c => if_pos c
 have oL' : ∀ {id}, ¬ ns ≤ id → x2.Ω id = x'.Ω id := fun {id} c => if_neg c
 have oH : ∀ {id}, ns ≤ id → x2.Ω id = x.Ω id := fun {id} c => if_pos c
 have hb : ∀ {id o}, getO h id = some o → o ≠ .dead → ns ≤ id → x'.w.heap[x.φ id]? = x.w.heap[x.φ id]? ∧ (∀ q, x'.S (x.φ id) q → x.S (x.φ id) q) := fun {id o} hg hd c => by
  have hlt := block_lt hi hg hd
  have n1 : ∀ i2 o2, getO hh i2 = some o2 → o2 ≠ .dead → x.φ i2 ≠ x.φ id := fun i2 o2 h2 hd2 he => by
   obtain ⟨h3, c3⟩ := up h2
   have := hi.inj i2 id o2 o h3 hg hd2 hd he
   omega
  have n2 : ∀ i2 d2, getO hh i2 = some (.big d2) → ¬ x.Ω i2 (x.φ id) := fun i2 d2 h2 hO => (hi.big i2 d2 (up h2).1 _ hO).2.1 id o hg hd rfl
  refine ⟨st.frame _ hlt (fun i2 o2 h2 hm => n1 i2 o2 h2 (mut_nd hm)) n2, fun q hs => ?_⟩
  rcases st.sgrow _ q hs with h1 | ⟨i2, o2, h1, h2, _, h3⟩ | h1 | ⟨i2, d2, h1, h2⟩
  ·exact h1
  ·exact absurd h3 (n1 i2 o2 h1 (row_nd h2))
  ·omega
  ·exact absurd h2 (n2 i2 d2 h1)
 have hO : ∀ {id d}, getO h id = some (.big d) → ns ≤ id → ∀ c, x.Ω id c → x'.w.heap[c]? = x.w.heap[c]? ∧ (∀ q, x'.S c q → x.S c q) := fun {id d} hg cc c hc => by
  obtain ⟨q1, q2, q3⟩ := hi.big id d hg c hc
  have n2 : ∀ i2 d2, getO hh i2 = some (.big d2) → ¬ x.Ω i2 c := fun i2 d2 h2 hO => by
   obtain ⟨h3, c3⟩ := up h2
   have := q3 i2 d2 h3 hO
   omega
  refine ⟨st.frame _ q1 (fun i2 o2 h2 hm => q2 i2 o2 (up h2).1 (mut_nd hm)) n2, fun q hs => ?_⟩
  rcases st.sgrow _ q hs with h1 | ⟨i2, o2, h1, h2, _, h3⟩ | h1 | ⟨i2, d2, h1, h2⟩
  ·exact h1
  ·exact absurd h3 (q2 i2 o2 (up h1).1 (row_nd h2))
  ·omega
  ·exact absurd h2 (n2 i2 d2 h1)
 have fromL : ∀ {id o}, getO h' id = some o → o ≠ .dead → ∀ {j oj}, getO h j = some oj → oj ≠ .dead → ns ≤ j → x'.φ id ≠ x.φ j := fun {id o} hg hd {j oj} hj hdj cj he => by
  rcases stepFrom st hg hd with ⟨i0, o0, h1, h2, h3⟩ | h1
  ·obtain ⟨h4, c4⟩ := up h1
   have := hi.inj i0 j o0 oj h4 hj h2 hdj (h3.symm.trans he)
   omega
  ·have := block_lt hi hj hdj
   omega
 have fromO : ∀ {id d}, getO h' id = some (.big d) → ∀ {c}, x'.Ω id c → (∀ {j oj}, getO h j = some oj → oj ≠ .dead → ns ≤ j → x.φ j ≠ c) ∧ ∀ {j dj}, getO h j = some (.big dj) → ns ≤ j → ¬ x.Ω j c := fun {id d} hg {c} hc => by
  rcases st.bfresh id d c hg hc with ⟨i0, d0, h1, h2⟩ | h1 | ⟨i0, o0, h1, h2, _, h3⟩
  ·obtain ⟨h4, c4⟩ := up h1
   obtain ⟨_, q2, q3⟩ := hi.big i0 d0 h4 c h2
   exact ⟨fun {j oj} hj hd _ => q2 j oj hj hd, fun {j dj} hj cj hO => by have := q3 j dj hj hO; omega⟩
  ·exact ⟨fun {j oj} hj hd _ he => by have := block_lt hi hj hd; omega, fun {j dj} hj cj hO => by have := (hi.big j dj hj c hO).1; omega⟩
  ·obtain ⟨h4, c4⟩ := up h1
   exact ⟨fun {j oj} hj hd cj he => by have := hi.inj i0 j o0 oj h4 hj (row_nd h2) hd (h3.trans he.symm); omega, fun {j dj} hj cj hO => (hi.big j dj hj c hO).2.1 i0 o0 h4 (row_nd h2) h3⟩
 have extH : Ext x x2 := ⟨st.ext.b0, st.ext.bg, st.ext.cells⟩
 have extL' : Ext x' x2 := ⟨rfl, rfl, fun b o hs => ⟨hs, rfl⟩⟩
 have hinv : Inv G0 x2 h2 := {
  bgo := hi'.bgo
  obj := fun id o hg => by
   by_cases hd : o = .dead
   ·subst hd; trivial
   by_cases c : ns ≤ id
   ·have hg' := hgh hg c
    refine (hi.obj id o hg').mono extH (hb hg' hd c).1 (pH c) (kH c) (fun j hj => ?_) fun d hd2 => ?_
    ·have cj := hcl id o c hg' j hj
     exact .same (by rw [hh2, if_pos cj]) (pH cj) (kH cj)
    ·subst hd2
     exact ⟨oH c, fun k hk => (hO hg' c k hk).1, fun k q hk hs => (hO hg' c k hk).2 q hs⟩
   ·have hg' := low hg c
    refine (hi'.obj id o hg').mono extL' rfl (pL c) (kL c) (fun j hj => ?_) fun d hd2 => ?_
    ·have hl := hi'.live id o hg' j hj
     have cj : ¬ ns ≤ j := fun cj => by rw [hh' j cj] at hl; cases hl
     exact .same (by rw [hh2, if_neg cj]) (pL cj) (kL cj)
    ·subst hd2
     exact ⟨oL' c, fun _ _ => rfl, fun _ _ _ h => h⟩
  inj := fun i j oi oj gi gj di dj hp => by
   by_cases ci : ns ≤ i <;> by_cases cj : ns ≤ j
   ·rw [pH ci, pH cj] at hp
    exact hi.inj i j oi oj (hgh gi ci) (hgh gj cj) di dj hp
   ·rw [pH ci, pL cj] at hp
    exact absurd hp.symm (fromL (low gj cj) dj (hgh gi ci) di ci)
   ·rw [pL ci, pH cj] at hp
    exact absurd hp (fromL (low gi ci) di (hgh gj cj) dj cj)
   ·rw [pL ci, pL cj] at hp
    exact hi'.inj i j oi oj (low gi ci) (low gj cj) di dj hp
  own := fun id o hg hm j hs => by
   by_cases c : ns ≤ id
   ·rw [pH c] at hs
    exact hi.own id o (hgh hg c) hm j ((hb (hgh hg c) (mut_nd hm) c).2 j hs)
   ·rw [pL c] at hs
    exact hi'.own id o (low hg c) hm j hs
  sh := hi'.sh
  live := fun id o hg j hj => by
   by_cases c : ns ≤ id
   ·have cj := hcl id o c (hgh hg c) j hj
    rw [hh2, if_pos cj]
    exact hi.live id o (hgh hg c) j hj
   ·have hl := hi'.live id o (low hg c) j hj
    have cj : ¬ ns ≤ j := fun cj => by rw [hh' j cj] at hl; cases hl
    rw [hh2, if_neg cj]
    exact hl
  glob := fun g j c hg => by simp [G0] at hg
  big := fun id d hg b hbb => by
   by_cases c : ns ≤ id
   ·rw [oH c] at hbb
    have hg' := hgh hg c
    obtain ⟨q1, q2, q3⟩ := hi.big id d hg' b hbb
    refine ⟨Nat.lt_of_lt_of_le q1 st.size, fun i o hgi hd hp => ?_, fun i d' hgi hOi => ?_⟩
    ·by_cases ci : ns ≤ i
     ·rw [pH ci] at hp
      exact q2 i o (hgh hgi ci) hd hp
     ·rw [pL ci] at hp
      rcases stepFrom st (low hgi ci) hd with ⟨i0, o0, h1, h2, h3⟩ | h1
      ·exact q2 i0 o0 (up h1).1 h2 (h3.symm.trans hp)
      ·omega
    ·by_cases ci : ns ≤ i
     ·rw [oH ci] at hOi
      exact q3 i d' (hgh hgi ci) hOi
     ·rw [oL' ci] at hOi
      exact absurd hbb ((fromO (low hgi ci) hOi).2 hg' c)
   ·rw [oL' c] at hbb
    have hg' := low hg c
    obtain ⟨q1, q2, q3⟩ := hi'.big id d hg' b hbb
    refine ⟨q1, fun i o hgi hd hp => ?_, fun i d' hgi hOi => ?_⟩
    ·by_cases ci : ns ≤ i
     ·rw [pH ci] at hp
      exact (fromO hg' hbb).1 (hgh hgi ci) hd ci hp
     ·rw [pL ci] at hp
      exact q2 i o (low hgi ci) hd hp
    ·by_cases ci : ns ≤ i
     ·rw [oH ci] at hOi
      exact absurd hOi ((fromO hg' hbb).2 (hgh hgi ci) ci)
     ·rw [oL' ci] at hOi
      exact q3 i d' (low hgi ci) hOi }
 refine ⟨hinv, ?_⟩
 exact {
  ext := extH
  size := st.size
  evo := fun id hD hs => ⟨.same (by rw [hh2, if_pos hD]) (pH hD) (kH hD), by rw [hh2, if_pos hD]; exact hs⟩
  frame := fun b hb h1 h2 => st.frame b hb (fun id o hg hm => h1 id o (up hg).1 hm) fun id d hg => h2 id d (up hg).1
  sgrow := fun b o hs => by
   rcases st.sgrow b o hs with h1 | ⟨i2, o2, h1, h2, h3⟩ | h1 | ⟨i2, d2, h1, h2⟩
   ·exact .inl h1
   ·exact .inr (.inl ⟨i2, o2, (up h1).1, h2, h3⟩)
   ·exact .inr (.inr (.inl h1))
   ·exact .inr (.inr (.inr ⟨i2, d2, (up h1).1, h2⟩))
  bfresh := fun id d b hg hbb => by
   by_cases c : ns ≤ id
   ·rw [oH c] at hbb
    exact .inl ⟨id, d, hgh hg c, hbb⟩
   ·rw [oL' c] at hbb
    rcases st.bfresh id d b (low hg c) hbb with ⟨i0, d0, h1, h2⟩ | h1 | ⟨i0, o0, h1, h2⟩
    ·exact .inl ⟨i0, d0, (up h1).1, h2⟩
    ·exact .inr (.inl h1)
    ·exact .inr (.inr ⟨i0, o0, (up h1).1, h2⟩)
  fresh := fun id o hg hm => by
   by_cases c : ns ≤ id
   ·exact .inl ⟨id, o, hgh hg c, hm, pH c⟩
   ·rw [pL c]
    rcases st.fresh id o (low hg c) hm with ⟨i0, o0, h1, h2⟩ | h1
    ·exact .inl ⟨i0, o0, (up h1).1, h2⟩
    ·exact .inr h1
  frow := fun id o hg hm => by
   by_cases c : ns ≤ id
   ·exact .inl ⟨id, o, hgh hg c, hm, fun h => h, pH c⟩
   ·rw [pL c]
    rcases st.frow id o (low hg c) hm with ⟨i0, o0, h1, h2⟩ | h1
    ·exact .inl ⟨i0, o0, (up h1).1, h2⟩
    ·exact .inr h1
  os := st.os
  tape := st.tape
  output := st.output
  nf := st.nf }
end Go.Proofs.Ytdgfbfkjdflabaa
namespace Go.Proofs.Ytdgfbfkjdflabaa
open Go.Ev
def iClone_r : List Bool := [o_,o_,i_,o_,o_,o_,o_,o_,o_,o_,o_,o_,o_,o_,o_,o_,o_,o_,o_,o_,o_,o_,o_,o_,o_,o_,o_,o_,o_,o_,o_,o_,o_,o_,o_,o_,o_,o_,o_,o_,o_,o_,o_]
def iClone_j1 : List Bool := [i_,o_,o_,i_,o_,o_,o_,o_,o_,o_,o_,o_,o_,i_,o_,o_,o_,o_,o_,o_,o_,o_,o_,o_,o_,o_,o_,o_,o_,o_,o_,o_,o_,o_,o_,o_,o_,o_,o_,o_,o_,o_,o_]
def iClone_k0 : List Bool := [i_,o_,o_,i_,o_,o_,o_,o_,o_,o_,o_,o_,o_,i_,o_,o_,o_,o_,o_,o_,o_,o_,o_,o_,o_,o_,o_,o_,o_,o_,o_,o_,o_,o_,o_,o_,o_,o_,o_,o_,o_,o_,o_]
def iClone_j0 : List Bool := [i_,o_,o_,i_,o_,o_,o_,o_,o_,o_,o_,o_,o_,o_,o_,o_,o_,o_,o_,o_,o_,o_,o_,o_,o_,o_,o_,o_,o_,o_,o_,o_,o_,o_,o_,o_,o_,o_,o_,o_,o_,o_,o_]
def iClone_j3 : List Bool := [o_,o_,o_,i_,o_,o_,o_,o_,o_,o_,o_,o_,o_,o_,o_,o_,o_,o_,o_,o_,o_,o_,o_,o_,o_,o_,o_,o_,o_,o_,i_,o_,o_,o_,o_,o_,o_,o_,o_,o_,o_,o_,o_]
def iClone_k1 : List Bool := [o_,o_,o_,i_,o_,o_,o_,o_,o_,o_,o_,o_,o_,o_,o_,o_,o_,o_,o_,o_,o_,o_,o_,o_,o_,o_,o_,o_,o_,o_,i_,o_,o_,o_,o_,o_,o_,o_,o_,o_,o_,o_,o_]
def iClone_j2 : List Bool := [o_,o_,o_,i_,o_,o_,o_,o_,o_,o_,o_,o_,o_,o_,o_,o_,o_,o_,o_,o_,o_,o_,o_,o_,o_,o_,o_,o_,o_,o_,o_,o_,o_,o_,o_,o_,o_,o_,o_,o_,o_,o_,o_]
abbrev wClone_R (t2 : AV) (h : Heap) : St := ⟨[u_,u_,t2, u_,u_,u_,u_,u_,u_,u_,u_,u_,u_,u_,u_,u_,u_,u_,u_,u_,u_,u_,u_,u_,u_,u_,u_,u_,u_,u_,u_,u_,u_,u_,u_,u_,u_,u_,u_,u_,u_,u_,u_], h⟩
def iClone_b0 : IR :=
  (.seq
   (.reg [] [
     ⟨(some 14), .trap, none, []⟩,
     ⟨(some 15), .ext 0 (.t 14), none, []⟩])
   (.seq
    (.cond (.t 15)
     .skip
     (.exit 0 iClone_j0))
    (.block 1 iClone_j1
     (.seq
      (.reg [] [
        ⟨(some 16), .trap, none, []⟩,
        ⟨(some 17), .ext 0 (.t 16), none, []⟩,
        ⟨(some 18), .ext 1 (.t 16), none, []⟩,
        ⟨(some 4), .new 3 [(.int .i64 0), (.int .i64 0)], none, []⟩,
        ⟨none, .store 2 (.t 4) (.t 17), none, []⟩,
        ⟨(some 5), .cn (.t 18), none, []⟩])
      (.reg [(3, 6), (4, 6)] [
        ⟨(some 19), .mv (.t 3), none, []⟩,
        ⟨(some 20), .nilc (.t 19), none, []⟩,
        ⟨(some 21), .fa 0 (.t 20), none, []⟩,
        ⟨(some 22), .load false 1 (.t 21), none, []⟩,
        ⟨(some 23), .load true 2 (.t 4), none, []⟩,
        ⟨(some 24), .cn (.t 5), none, []⟩,
        ⟨(some 25), .qcall n_slices_Clone_sl_sl_byte_sl_byte [(.t 24)] [4], none, []⟩,
        ⟨none, .call n_x2000225 [(.t 22), (.t 23), (.t 25)] [], none, []⟩])))))
def iClone_b1 : IR :=
  (.seq
   (.reg [] [
     ⟨(some 31), .trap, none, []⟩,
     ⟨(some 32), .ext 0 (.t 31), none, []⟩])
   (.seq
    (.cond (.t 32)
     .skip
     (.exit 2 iClone_j2))
    (.block 3 iClone_j3
     (.seq
      (.reg [] [
        ⟨(some 33), .trap, none, []⟩,
        ⟨(some 34), .ext 0 (.t 33), none, []⟩,
        ⟨(some 35), .ext 1 (.t 33), none, []⟩,
        ⟨(some 6), .new 5 [(.int .i64 0), (.int .i64 0)], none, []⟩,
        ⟨none, .store 2 (.t 6) (.t 34), none, []⟩,
        ⟨(some 7), .mv (.t 35), none, []⟩])
      (.reg [] [
        ⟨(some 36), .mv (.t 3), none, []⟩,
        ⟨(some 37), .nilc (.t 36), none, []⟩,
        ⟨(some 38), .fa 1 (.t 37), none, []⟩,
        ⟨(some 39), .load false 1 (.t 38), none, []⟩,
        ⟨(some 40), .load true 2 (.t 6), none, []⟩,
        ⟨(some 41), .mv (.t 7), none, []⟩,
        ⟨none, .call n_x2000229 [(.t 39), (.t 40), (.t 41)] [], none, []⟩])))))
def iClone : Ev.Fn := ⟨1, 43, 6,
  (.seq
   (.reg [] [
     ⟨(some 2), .mv (.k (.pointer none)), none, []⟩])
   (.seq
    (.reg [] [
      ⟨(some 8), .qcall n_net_New [] [0, 1, 2], none, []⟩,
      ⟨(some 3), .mv (.t 8), none, []⟩])
    (.seq
     (.seq
      (.reg [] [
        ⟨(some 9), .mv (.t 0), none, []⟩,
        ⟨(some 10), .nilc (.t 9), none, []⟩,
        ⟨(some 11), .fa 0 (.t 10), none, []⟩,
        ⟨(some 12), .load false 1 (.t 11), none, []⟩,
        ⟨(some 13), .trap, none, []⟩])
      (.block 0 iClone_j0
       (.loop iClone_k0 iClone_b0)))
     (.seq
      (.seq
       (.reg [] [
         ⟨(some 26), .mv (.t 0), none, []⟩,
         ⟨(some 27), .nilc (.t 26), none, []⟩,
         ⟨(some 28), .fa 1 (.t 27), none, []⟩,
         ⟨(some 29), .load false 1 (.t 28), none, []⟩,
         ⟨(some 30), .trap, none, []⟩])
       (.block 2 iClone_j2
        (.loop iClone_k1 iClone_b1)))
      (.seq
       (.reg [] [
         ⟨(some 42), .mv (.t 3), none, []⟩,
         ⟨(some 2), .mv (.t 42), none, []⟩])
       (.ret iClone_r)))))),
  [.tmp 2], [], false, [], false⟩
theorem klClone_r : iClone_r.length = 43 := rfl
theorem ktClone_r (l : List AV) : keepT iClone_r l = keepT [o_,o_,i_,o_,o_,o_,o_,o_,o_,o_,o_,o_,o_,o_,o_,o_,o_,o_,o_,o_,o_,o_,o_,o_,o_,o_,o_,o_,o_,o_,o_,o_,o_,o_,o_,o_,o_,o_,o_,o_,o_,o_,o_] l := rfl
attribute [go_sem] klClone_r ktClone_r
theorem klClone_j1 : iClone_j1.length = 43 := rfl
theorem ktClone_j1 (l : List AV) : keepT iClone_j1 l = keepT [i_,o_,o_,i_,o_,o_,o_,o_,o_,o_,o_,o_,o_,i_,o_,o_,o_,o_,o_,o_,o_,o_,o_,o_,o_,o_,o_,o_,o_,o_,o_,o_,o_,o_,o_,o_,o_,o_,o_,o_,o_,o_,o_] l := rfl
attribute [go_sem] klClone_j1 ktClone_j1
theorem klClone_k0 : iClone_k0.length = 43 := rfl
theorem ktClone_k0 (l : List AV) : keepT iClone_k0 l = keepT [i_,o_,o_,i_,o_,o_,o_,o_,o_,o_,o_,o_,o_,i_,o_,o_,o_,o_,o_,o_,o_,o_,o_,o_,o_,o_,o_,o_,o_,o_,o_,o_,o_,o_,o_,o_,o_,o_,o_,o_,o_,o_,o_] l := rfl
attribute [go_sem] klClone_k0 ktClone_k0
theorem klClone_j0 : iClone_j0.length = 43 := rfl
theorem ktClone_j0 (l : List AV) : keepT iClone_j0 l = keepT [i_,o_,o_,i_,o_,o_,o_,o_,o_,o_,o_,o_,o_,o_,o_,o_,o_,o_,o_,o_,o_,o_,o_,o_,o_,o_,o_,o_,o_,o_,o_,o_,o_,o_,o_,o_,o_,o_,o_,o_,o_,o_,o_] l := rfl
attribute [go_sem] klClone_j0 ktClone_j0
theorem klClone_j3 : iClone_j3.length = 43 := rfl
theorem ktClone_j3 (l : List AV) : keepT iClone_j3 l = keepT [o_,o_,o_,i_,o_,o_,o_,o_,o_,o_,o_,o_,o_,o_,o_,o_,o_,o_,o_,o_,o_,o_,o_,o_,o_,o_,o_,o_,o_,o_,i_,o_,o_,o_,o_,o_,o_,o_,o_,o_,o_,o_,o_] l := rfl
attribute [go_sem] klClone_j3 ktClone_j3
theorem klClone_k1 : iClone_k1.length = 43 := rfl
theorem ktClone_k1 (l : List AV) : keepT iClone_k1 l = keepT [o_,o_,o_,i_,o_,o_,o_,o_,o_,o_,o_,o_,o_,o_,o_,o_,o_,o_,o_,o_,o_,o_,o_,o_,o_,o_,o_,o_,o_,o_,i_,o_,o_,o_,o_,o_,o_,o_,o_,o_,o_,o_,o_] l := rfl
attribute [go_sem] klClone_k1 ktClone_k1
theorem klClone_j2 : iClone_j2.length = 43 := rfl
theorem ktClone_j2 (l : List AV) : keepT iClone_j2 l = keepT [o_,o_,o_,i_,o_,o_,o_,o_,o_,o_,o_,o_,o_,o_,o_,o_,o_,o_,o_,o_,o_,o_,o_,o_,o_,o_,o_,o_,o_,o_,o_,o_,o_,o_,o_,o_,o_,o_,o_,o_,o_,o_,o_] l := rfl
attribute [go_sem] klClone_j2 ktClone_j2
theorem okClone : trFn Try.prog Try.f13 iClone = some iClone := by kernel_rfl
def cq0 : List Opr := [
 ⟨(some 2), .mv (.k (.pointer none)), none, []⟩]
def cq1 : List Opr := [
 ⟨(some 8), .qcall n_net_New [] [0, 1, 2], none, []⟩,
 ⟨(some 3), .mv (.t 8), none, []⟩]
def cq10 : List Opr := [
 ⟨(some 42), .mv (.t 3), none, []⟩,
 ⟨(some 2), .mv (.t 42), none, []⟩]
def cq2 : List Opr := [
 ⟨(some 9), .mv (.t 0), none, []⟩,
 ⟨(some 10), .nilc (.t 9), none, []⟩,
 ⟨(some 11), .fa 0 (.t 10), none, []⟩,
 ⟨(some 12), .load false 1 (.t 11), none, []⟩]
def cq6 : List Opr := [
 ⟨(some 26), .mv (.t 0), none, []⟩,
 ⟨(some 27), .nilc (.t 26), none, []⟩,
 ⟨(some 28), .fa 1 (.t 27), none, []⟩,
 ⟨(some 29), .load false 1 (.t 28), none, []⟩]
def cq4 : List Opr := [
  ⟨(some 4), .new 3 [(.int .i64 0), (.int .i64 0)], none, []⟩,
 ⟨none, .store 2 (.t 4) (.t 17), none, []⟩,
 ⟨(some 5), .cn (.t 18), none, []⟩]
def cq8 : List Opr := [
  ⟨(some 6), .new 5 [(.int .i64 0), (.int .i64 0)], none, []⟩,
 ⟨none, .store 2 (.t 6) (.t 34), none, []⟩,
 ⟨(some 7), .mv (.t 35), none, []⟩]
def cq5 : List Opr := [
 ⟨(some 19), .mv (.t 3), none, []⟩,
 ⟨(some 20), .nilc (.t 19), none, []⟩,
 ⟨(some 21), .fa 0 (.t 20), none, []⟩,
 ⟨(some 22), .load false 1 (.t 21), none, []⟩,
 ⟨(some 23), .load true 2 (.t 4), none, []⟩,
 ⟨(some 24), .cn (.t 5), none, []⟩,
 ⟨(some 25), .qcall n_slices_Clone_sl_sl_byte_sl_byte [(.t 24)] [4], none, []⟩,
 ⟨none, .call n_x2000225 [(.t 22), (.t 23), (.t 25)] [], none, []⟩]
def cq9 : List Opr := [
 ⟨(some 36), .mv (.t 3), none, []⟩,
 ⟨(some 37), .nilc (.t 36), none, []⟩,
 ⟨(some 38), .fa 1 (.t 37), none, []⟩,
 ⟨(some 39), .load false 1 (.t 38), none, []⟩,
 ⟨(some 40), .load true 2 (.t 6), none, []⟩,
 ⟨(some 41), .mv (.t 7), none, []⟩,
 ⟨none, .call n_x2000229 [(.t 39), (.t 40), (.t 41)] [], none, []⟩]
abbrev hN (l0 : Nat → Option (List (List UInt8))) (f0 : Nat → Bool) (a b c : Option Ev.Obj) : Heap := [some (.var [.mp 1, .mp 2]), some (.big (.lines l0)), some (.big (.flags f0)), a, b, c]
abbrev hI (l : Nat → Option (List (List UInt8))) (g : Nat → Bool) : Heap := [none, none, none, none, none, none, some (.var [.mp 7, .mp 8]), some (.big (.lines l)), some (.big (.flags g))]
abbrev hB (l0 : Nat → Option (List (List UInt8))) (f0 : Nat → Bool) (l : Nat → Option (List (List UInt8))) (g : Nat → Bool) : Heap := [some (.var [.mp 1, .mp 2]), some (.big (.lines l0)), some (.big (.flags f0)), none, none, none, some (.var [.mp 7, .mp 8]), some (.big (.lines l)), some (.big (.flags g))]
abbrev cA (l : Nat → Option (List (List UInt8))) (g : Nat → Bool) : St := ⟨[.ptr 6 0, u_,u_,u_,u_,u_,u_,u_,u_,u_,u_,u_,u_,u_,u_,u_,u_,u_,u_,u_,u_,u_,u_,u_,u_,u_,u_,u_,u_,u_,u_,u_,u_,u_,u_,u_,u_,u_,u_,u_,u_,u_,u_], (hI l g)⟩
abbrev cA2 (l : Nat → Option (List (List UInt8))) (g : Nat → Bool) : St := ⟨[.ptr 6 0, u_,.s (.pointer none), u_,u_,u_,u_,u_,u_,u_,u_,u_,u_,u_,u_,u_,u_,u_,u_,u_,u_,u_,u_,u_,u_,u_,u_,u_,u_,u_,u_,u_,u_,u_,u_,u_,u_,u_,u_,u_,u_,u_,u_], (hI l g)⟩
theorem c0_ev (l : Nat → Option (List (List UInt8))) (g : Nat → Bool) : app tab G0 6 [] (ex tab G0 6 (.reg [] cq0) (cA l g)) = some (.normal, cA2 l g) := by
 simp (disch := omega) only [go_sem, seval, cq0]
abbrev cB (l : Nat → Option (List (List UInt8))) (g : Nat → Bool) : St := ⟨[.ptr 6 0, u_,u_,.ptr 0 0, u_,u_,u_,u_,.ptr 0 0, u_,u_,u_,u_,u_,u_,u_,u_,u_,u_,u_,u_,u_,u_,u_,u_,u_,u_,u_,u_,u_,u_,u_,u_,u_,u_,u_,u_,u_,u_,u_,u_,u_,u_], (hB (fun _ => none) (fun _ => false) l g)⟩
theorem c1_ev (l : Nat → Option (List (List UInt8))) (g : Nat → Bool) : app tab G0 6 [] (ex tab G0 6 (.reg [] cq1) (cA l g)) = some (.normal, cB l g) := by
 simp (disch := omega) only [go_sem, seval, cq1, net_New_ev]
abbrev cC (l0 : Nat → Option (List (List UInt8))) (f0 : Nat → Bool) (l : Nat → Option (List (List UInt8))) (g : Nat → Bool) : St := ⟨[.ptr 6 0, u_,u_,.ptr 0 0, u_,u_,u_,u_,u_,u_,u_,u_,u_,u_,u_,u_,u_,u_,u_,u_,u_,u_,u_,u_,u_,u_,u_,u_,u_,u_,u_,u_,u_,u_,u_,u_,u_,u_,u_,u_,u_,u_,u_], (hB l0 f0 l g)⟩
abbrev cD (l0 : Nat → Option (List (List UInt8))) (f0 : Nat → Bool) (l : Nat → Option (List (List UInt8))) (g : Nat → Bool) : St := ⟨[.ptr 6 0, u_,u_,.ptr 0 0, u_,u_,u_,u_,u_,.ptr 6 0, .ptr 6 0, .ptr 6 0, .mp 7, u_,u_,u_,u_,u_,u_,u_,u_,u_,u_,u_,u_,u_,u_,u_,u_,u_,u_,u_,u_,u_,u_,u_,u_,u_,u_,u_,u_,u_,u_], (hB l0 f0 l g)⟩
theorem c2_ev (l0 : Nat → Option (List (List UInt8))) (f0 : Nat → Bool) (l : Nat → Option (List (List UInt8))) (g : Nat → Bool) : app tab G0 6 [] (ex tab G0 6 (.reg [] cq2) (cC l0 f0 l g)) = some (.normal, cD l0 f0 l g) := by
 simp (disch := omega) only [go_sem, seval, cq2]
abbrev cD6 (l0 : Nat → Option (List (List UInt8))) (f0 : Nat → Bool) (l : Nat → Option (List (List UInt8))) (g : Nat → Bool) : St := ⟨[.ptr 6 0, u_,u_,.ptr 0 0, u_,u_,u_,u_,u_,u_,u_,u_,u_,u_,u_,u_,u_,u_,u_,u_,u_,u_,u_,u_,u_,u_,.ptr 6 0, .ptr 6 0, .ptr 6 1, .mp 8, u_,u_,u_,u_,u_,u_,u_,u_,u_,u_,u_,u_,u_], (hB l0 f0 l g)⟩
theorem c6_ev (l0 : Nat → Option (List (List UInt8))) (f0 : Nat → Bool) (l : Nat → Option (List (List UInt8))) (g : Nat → Bool) : app tab G0 6 [] (ex tab G0 6 (.reg [] cq6) (cC l0 f0 l g)) = some (.normal, cD6 l0 f0 l g) := by
 simp (disch := omega) only [go_sem, seval, cq6]
abbrev cK (v0 v13 : Value) (l0 : Nat → Option (List (List UInt8))) (f0 : Nat → Bool) : St := ⟨[.s v0, u_,u_,.ptr 0 0, u_,u_,u_,u_,u_,u_,u_,u_,u_,.s v13, u_,u_,u_,u_,u_,u_,u_,u_,u_,u_,u_,u_,u_,u_,u_,u_,u_,u_,u_,u_,u_,u_,u_,u_,u_,u_,u_,u_,u_], (hN l0 f0 none none none)⟩
abbrev cE (v0 v13 : Value) (l0 : Nat → Option (List (List UInt8))) (f0 : Nat → Bool) (f t : Int) (X : AV) : St := ⟨[.s v0, u_,u_,.ptr 0 0, u_,u_,u_,u_,u_,u_,u_,u_,u_,.s v13, u_,u_,u_,.agg [i64 f, i64 t], X, u_,u_,u_,u_,u_,u_,u_,u_,u_,u_,u_,u_,u_,u_,u_,u_,u_,u_,u_,u_,u_,u_,u_,u_], (hN l0 f0 none none none)⟩
abbrev cF (v0 v13 : Value) (l0 : Nat → Option (List (List UInt8))) (f0 : Nat → Bool) (f t : Int) (X : AV) : St := ⟨[.s v0, u_,u_,.ptr 0 0, .ptr 3 0, X, u_,u_,u_,u_,u_,u_,u_,.s v13, u_,u_,u_,.agg [i64 f, i64 t], X, u_,u_,u_,u_,u_,u_,u_,u_,u_,u_,u_,u_,u_,u_,u_,u_,u_,u_,u_,u_,u_,u_,u_,u_], (hN l0 f0 (some (.var [i64 f, i64 t])) none none)⟩
abbrev cFk (v0 v13 : Value) (l0 : Nat → Option (List (List UInt8))) (f0 : Nat → Bool) (f t : Int) (X : AV) : St := ⟨[.s v0, u_,u_,.ptr 0 0, .ptr 3 0, X, u_,u_,u_,u_,u_,u_,u_,.s v13, u_,u_,u_,u_,u_,u_,u_,u_,u_,u_,u_,u_,u_,u_,u_,u_,u_,u_,u_,u_,u_,u_,u_,u_,u_,u_,u_,u_,u_], (hN l0 f0 (some (.var [i64 f, i64 t])) none none)⟩
abbrev cG (v0 v13 : Value) (l0 : Nat → Option (List (List UInt8))) (f0 : Nat → Bool) (f t : Int) (X : AV) (n : Nat) : St := ⟨[.s v0, u_,u_,.ptr 0 0, .ptr 3 0, X, u_,u_,u_,u_,u_,u_,u_,.s v13, u_,u_,u_,u_,u_,.ptr 0 0, .ptr 0 0, .ptr 0 0, .mp 1, .agg [i64 f, i64 t], X, .row 4 n, u_,u_,u_,u_,u_,u_,u_,u_,u_,u_,u_,u_,u_,u_,u_,u_,u_], (hN l0 f0 (some (.var [i64 f, i64 t])) (some .dead) none)⟩
abbrev cGk (v0 v13 : Value) (l0 : Nat → Option (List (List UInt8))) (f0 : Nat → Bool) (f t : Int) : St := ⟨[.s v0, u_,u_,.ptr 0 0, u_,u_,u_,u_,u_,u_,u_,u_,u_,.s v13, u_,u_,u_,u_,u_,u_,u_,u_,u_,u_,u_,u_,u_,u_,u_,u_,u_,u_,u_,u_,u_,u_,u_,u_,u_,u_,u_,u_,u_], (hN l0 f0 (some (.var [i64 f, i64 t])) (some .dead) none)⟩
theorem clone_rows_ev (ms : List (List UInt8)) (hne : ms ≠ []) (hl : ms.length ≤ 1048576) : Ev tab G0 n_slices_Clone_sl_sl_byte_sl_byte [.sl true (eBs ms)] [] = some ([.row 0 ms.length], [.row 29 1 true false (eBs ms)]) := by
 cases ms with
 | nil => exact absurd rfl hne
 | cons m ms =>
  simp only [List.length_cons] at hl
  rw [show eBs (m :: ms) = [.sl (eB m)] :: eBs ms from rfl]
  have hz : szOk 1 (eBs ms) = true := by simp [szOk, eBs]
  have h2 : (eBs ms).length = ms.length := eBs_len ms
  refine Ev_notnil t_slices_Clone_sl_sl_byte_sl_byte rfl rfl (evFn1_run rfl ?_)
  simp (disch := omega) only [go_sem, seval, i_slices_Clone_sl_sl_byte_sl_byte, hz, h2]
theorem clone_none_ev : Ev tab G0 n_slices_Clone_sl_sl_byte_sl_byte [.esl] [] = some ([.row 0 0], [.row 29 1 true false []]) := by
 have h : evFn1 G0 LoopL (Ev tab G0) i_slices_Clone_sl_sl_byte_sl_byte [.esl] [] = some ([.row 0 0], [.row 29 1 true false []]) := by
  refine evFn1_run rfl ?_
  simp (disch := omega) only [go_sem, seval, i_slices_Clone_sl_sl_byte_sl_byte]
 refine Ev_of ?_
 have ht := t_slices_Clone_sl_sl_byte_sl_byte
 have hq : i_slices_Clone_sl_sl_byte_sl_byte.nilq = true := rfl
 have hr : i_slices_Clone_sl_sl_byte_sl_byte.raw = [] := rfl
 simp only [evFn, ht, evFnC, hq, hr, canonA, AV.canon, AV.canon1, if_true, h]
theorem c4_ev (v0 v13 : Value) (l0 : Nat → Option (List (List UInt8))) (f0 : Nat → Bool) (f t : Int) (X : AV) (hX : (∃ ms, X = .sl true (eBs ms)) ∨ X = .esl) : app tab G0 6 [] (ex tab G0 6 (.reg [] cq4) (cE v0 v13 l0 f0 f t X)) = some (.normal, cF v0 v13 l0 f0 f t X) := by
 rcases hX with ⟨ms, rfl⟩ | rfl <;>
 simp (disch := omega) only [go_sem, seval, cq4]
theorem c5_ev (v0 v13 : Value) (l0 : Nat → Option (List (List UInt8))) (f0 : Nat → Bool) (f t : Int) (ms : List (List UInt8)) (hne : ms ≠ []) (hn : ms.length ≤ 1048576) (hl : isLine f t = true) : app tab G0 6 [] (ex tab G0 6 (.reg [(3, 6), (4, 6)] cq5) (cFk v0 v13 l0 f0 f t (.sl true (eBs ms)))) = some (.normal, cG v0 v13 (upd1 l0 (lnIx f t) (some ms)) f0 f t (.sl true (eBs ms)) ms.length) := by
 have h1 := clone_rows_ev ms hne hn
 have h2 := x_upd l0 f t ms.length 29 true ms hl rfl
 simp (disch := omega) only [go_sem, seval, cq5, h1, h2]
theorem c5e_ev (v0 v13 : Value) (l0 : Nat → Option (List (List UInt8))) (f0 : Nat → Bool) (f t : Int) (hl : isLine f t = true) : app tab G0 6 [] (ex tab G0 6 (.reg [(3, 6), (4, 6)] cq5) (cFk v0 v13 l0 f0 f t .esl)) = some (.normal, cG v0 v13 (upd1 l0 (lnIx f t) (some [])) f0 f t .esl 0) := by
 have h2 := x_upd l0 f t 0 29 true [] hl rfl
 rw [show eBs [] = [] from rfl] at h2
 simp (disch := omega) only [go_sem, seval, cq5, clone_none_ev, h2]
theorem c5_ex (v0 v13 : Value) (l0 : Nat → Option (List (List UInt8))) (f0 : Nat → Bool) (f t : Int) : app tab G0 6 [] (ex tab G0 6 (.exit 1 iClone_k0) (cGk v0 v13 l0 f0 f t)) = some (.exit 1, cK v0 v13 l0 f0) := by
 simp (disch := omega) only [go_sem, seval]
abbrev dK (v30 : Value) (l0 : Nat → Option (List (List UInt8))) (f0 : Nat → Bool) : St := ⟨[u_,u_,u_,.ptr 0 0, u_,u_,u_,u_,u_,u_,u_,u_,u_,u_,u_,u_,u_,u_,u_,u_,u_,u_,u_,u_,u_,u_,u_,u_,u_,u_,.s v30, u_,u_,u_,u_,u_,u_,u_,u_,u_,u_,u_,u_], (hN l0 f0 none none none)⟩
abbrev dE (v30 : Value) (l0 : Nat → Option (List (List UInt8))) (f0 : Nat → Bool) (f t : Int) (b : Bool) : St := ⟨[u_,u_,u_,.ptr 0 0, u_,u_,u_,u_,u_,u_,u_,u_,u_,u_,u_,u_,u_,u_,u_,u_,u_,u_,u_,u_,u_,u_,u_,u_,u_,u_,.s v30, u_,u_,u_,.agg [i64 f, i64 t], bo b, u_,u_,u_,u_,u_,u_,u_], (hN l0 f0 none none none)⟩
abbrev dF (v30 : Value) (l0 : Nat → Option (List (List UInt8))) (f0 : Nat → Bool) (f t : Int) (b : Bool) : St := ⟨[u_,u_,u_,.ptr 0 0, u_,u_,.ptr 5 0, bo b, u_,u_,u_,u_,u_,u_,u_,u_,u_,u_,u_,u_,u_,u_,u_,u_,u_,u_,u_,u_,u_,u_,.s v30, u_,u_,u_,.agg [i64 f, i64 t], bo b, u_,u_,u_,u_,u_,u_,u_], (hN l0 f0 none none (some (.var [i64 f, i64 t])))⟩
abbrev dFk (v30 : Value) (l0 : Nat → Option (List (List UInt8))) (f0 : Nat → Bool) (f t : Int) (b : Bool) : St := ⟨[u_,u_,u_,.ptr 0 0, u_,u_,.ptr 5 0, bo b, u_,u_,u_,u_,u_,u_,u_,u_,u_,u_,u_,u_,u_,u_,u_,u_,u_,u_,u_,u_,u_,u_,.s v30, u_,u_,u_,u_,u_,u_,u_,u_,u_,u_,u_,u_], (hN l0 f0 none none (some (.var [i64 f, i64 t])))⟩
abbrev dG (v30 : Value) (l0 : Nat → Option (List (List UInt8))) (f0 : Nat → Bool) (f t : Int) (b : Bool) : St := ⟨[u_,u_,u_,.ptr 0 0, u_,u_,.ptr 5 0, bo b, u_,u_,u_,u_,u_,u_,u_,u_,u_,u_,u_,u_,u_,u_,u_,u_,u_,u_,u_,u_,u_,u_,.s v30, u_,u_,u_,u_,u_,.ptr 0 0, .ptr 0 0, .ptr 0 1, .mp 2, .agg [i64 f, i64 t], bo b, u_], (hN l0 f0 none none (some (.var [i64 f, i64 t])))⟩
abbrev dGk (v30 : Value) (l0 : Nat → Option (List (List UInt8))) (f0 : Nat → Bool) (f t : Int) : St := ⟨[u_,u_,u_,.ptr 0 0, u_,u_,u_,u_,u_,u_,u_,u_,u_,u_,u_,u_,u_,u_,u_,u_,u_,u_,u_,u_,u_,u_,u_,u_,u_,u_,.s v30, u_,u_,u_,u_,u_,u_,u_,u_,u_,u_,u_,u_], (hN l0 f0 none none (some (.var [i64 f, i64 t])))⟩
theorem c8_ev (v30 : Value) (l0 : Nat → Option (List (List UInt8))) (f0 : Nat → Bool) (f t : Int) (b : Bool) : app tab G0 6 [] (ex tab G0 6 (.reg [] cq8) (dE v30 l0 f0 f t b)) = some (.normal, dF v30 l0 f0 f t b) := by
 simp (disch := omega) only [go_sem, seval, cq8]
theorem c9_ev (v30 : Value) (l0 : Nat → Option (List (List UInt8))) (f0 : Nat → Bool) (f t : Int) (b : Bool) (hl : isLine f t = true) : app tab G0 6 [] (ex tab G0 6 (.reg [] cq9) (dFk v30 l0 f0 f t b)) = some (.normal, dG v30 l0 (upd1 f0 (lnIx f t) b) f t b) := by
 have h2 := x_set f0 f t b hl
 simp (disch := omega) only [go_sem, seval, cq9, h2]
theorem c9_ex (v30 : Value) (l0 : Nat → Option (List (List UInt8))) (f0 : Nat → Bool) (f t : Int) : app tab G0 6 [] (ex tab G0 6 (.exit 3 iClone_k1) (dGk v30 l0 f0 f t)) = some (.exit 3, dK v30 l0 f0) := by
 simp (disch := omega) only [go_sem, seval]
abbrev cT (l0 : Nat → Option (List (List UInt8))) (f0 : Nat → Bool) (l : Nat → Option (List (List UInt8))) (g : Nat → Bool) : St := ⟨[u_,u_,u_,.ptr 0 0, u_,u_,u_,u_,u_,u_,u_,u_,u_,u_,u_,u_,u_,u_,u_,u_,u_,u_,u_,u_,u_,u_,u_,u_,u_,u_,u_,u_,u_,u_,u_,u_,u_,u_,u_,u_,u_,u_,u_], (hB l0 f0 l g)⟩
theorem cT_ev (l0 : Nat → Option (List (List UInt8))) (f0 : Nat → Bool) (l : Nat → Option (List (List UInt8))) (g : Nat → Bool) : app tab G0 6 [] (ex tab G0 6 (.seq (.reg [] cq10) (.ret iClone_r)) (cT l0 f0 l g)) = some (.ret, wClone_R (.ptr 0 0) (hB l0 f0 l g)) := by
 simp (disch := omega) only [go_sem, seval, cq10]
end Go.Proofs.Ytdgfbfkjdflabaa
namespace Go.Proofs.Ytdgfbfkjdflabaa
open Go.Ev
abbrev eV (n : Int) : AV := .s (.iface 38 (.int .i64 n))
theorem net_Net_at_noline (l : Nat → Option (List (List UInt8))) (g : Nat → Bool) (f t i : Int) (hf : inI f = true) (ht : inI t = true) (hl : isLine f t = false) : Ev tab G0 n_net_Net_at [.ptr 0 0, i64 f, i64 t, i64 i] [oN, oL l, oF g] = some ([.sl true [], eV 1], [oN, oL l, oF g]) := by
 refine Ev_run t_net_Net_at rfl rfl ?_
 have h1 := net_line_ev f t
 have h2 := x_look l f t hf ht
 rw [hl] at h1 h2
 rw [if_neg (by decide), show eBs [] = [] from rfl] at h2
 simp (disch := omega) only [go_sem, seval, i_net_Net_at, h1, h2]
theorem net_Net_at_none (l : Nat → Option (List (List UInt8))) (g : Nat → Bool) (f t i : Int) (ms : List (List UInt8)) (hl : isLine f t = true) (hm : (l (lnIx f t)).getD [] = ms) (hi : i < 0 ∨ (ms.length : Int) ≤ i) : Ev tab G0 n_net_Net_at [.ptr 0 0, i64 f, i64 t, i64 i] [oN, oL l, oF g] = some ([.sl true [], eV 9], [oN, oL l, oF g]) := by
 refine Ev_run t_net_Net_at rfl rfl ?_
 have hin : inI f = true ∧ inI t = true := by
  simp only [isLine, decide_eq_true_eq] at hl
  simp only [inI, decide_eq_true_eq]
  omega
 have h1 := net_line_ev f t
 have h2 := x_look l f t hin.1 hin.2
 rw [hl] at h1 h2
 rw [if_pos rfl, hm] at h2
 by_cases h0 : i < 0
 ·simp (disch := omega) only [go_sem, seval, i_net_Net_at, h1, h2, eBs_len, h0]
 ·have h3 : i ≥ (ms.length : Int) := by omega
  simp (disch := omega) only [go_sem, seval, i_net_Net_at, h1, h2, eBs_len, h0, h3]
theorem net_Net_at_ev (l : Nat → Option (List (List UInt8))) (g : Nat → Bool) (f t : Int) (i : Nat) (ms : List (List UInt8)) (hl : isLine f t = true) (hm : (l (lnIx f t)).getD [] = ms) (hi : i < ms.length) : Ev tab G0 n_net_Net_at [.ptr 0 0, i64 f, i64 t, i64 i] [oN, oL l, oF g] = some ([.sl true (eBs ms), .s .nilIface], [oN, oL l, oF g]) := by
 refine Ev_run t_net_Net_at rfl rfl ?_
 have hin : inI f = true ∧ inI t = true := by
  simp only [isLine, decide_eq_true_eq] at hl
  simp only [inI, decide_eq_true_eq]
  omega
 have h1 := net_line_ev f t
 have h2 := x_look l f t hin.1 hin.2
 rw [hl] at h1 h2
 rw [if_pos rfl, hm] at h2
 have h0 : ¬ (i : Int) < 0 := by omega
 have h3 : ¬ (i : Int) ≥ (ms.length : Int) := by omega
 simp (disch := omega) only [go_sem, seval, i_net_Net_at, h1, h2, eBs_len, h0, h3]
theorem net_Net_Line_noline (l : Nat → Option (List (List UInt8))) (g : Nat → Bool) (f t : Int) (b : Bool) (hl : isLine f t = false) : Ev tab G0 n_net_Net_Line [.ptr 0 0, i64 f, i64 t, bo b] [oN, oL l, oF g] = some ([eV 1], [oN, oL l, oF g]) := by
 refine Ev_run t_net_Net_Line rfl rfl ?_
 have h1 := net_line_ev f t
 rw [hl] at h1
 simp (disch := omega) only [go_sem, seval, i_net_Net_Line, h1]
theorem net_Net_Line_ev (l : Nat → Option (List (List UInt8))) (g : Nat → Bool) (f t : Int) (b : Bool) (hl : isLine f t = true) : Ev tab G0 n_net_Net_Line [.ptr 0 0, i64 f, i64 t, bo b] [oN, oL l, oF g] = some ([.s .nilIface], [oN, oL l, oF (upd1 g (lnIx f t) b)]) := by
 refine Ev_run t_net_Net_Line rfl rfl ?_
 have h1 := net_line_ev f t
 have h2 := x_set g f t b hl
 rw [hl] at h1
 simp (disch := omega) only [go_sem, seval, i_net_Net_Line, h1, h2]
end Go.Proofs.Ytdgfbfkjdflabaa
namespace Go.Proofs.Ytdgfbfkjdflabaa
open Go.Ev
theorem eBs_sz (ms : List (List UInt8)) : szOk 1 (eBs ms) = true := by simp [szOk, eBs]
theorem net_Net_Double_err (l : Nat → Option (List (List UInt8))) (g : Nat → Bool) (f t i n : Int) (h : Ev tab G0 n_net_Net_at [.ptr 0 0, i64 f, i64 t, i64 i] [oN, oL l, oF g] = some ([.sl true [], eV n], [oN, oL l, oF g])) : Ev tab G0 n_net_Net_Double [.ptr 0 0, i64 f, i64 t, i64 i] [oN, oL l, oF g] = some ([eV n], [oN, oL l, oF g]) := by
 refine Ev_run t_net_Net_Double rfl rfl ?_
 simp (disch := omega) only [go_sem, seval, i_net_Net_Double, h]
theorem net_Net_Double_full (l : Nat → Option (List (List UInt8))) (g : Nat → Bool) (f t : Int) (i : Nat) (ms : List (List UInt8)) (hl : isLine f t = true) (hm : (l (lnIx f t)).getD [] = ms) (hi : i < ms.length) (h64 : 64 ≤ ms.length) : Ev tab G0 n_net_Net_Double [.ptr 0 0, i64 f, i64 t, i64 i] [oN, oL l, oF g] = some ([eV 11], [oN, oL l, oF g]) := by
 refine Ev_run t_net_Net_Double rfl rfl ?_
 have h1 := net_Net_at_ev l g f t i ms hl hm hi
 have h3 : (ms.length : Int) ≥ 64 := by omega
 simp (disch := omega) only [go_sem, seval, i_net_Net_Double, h1, eBs_len, h3]
theorem net_Net_Double_ev (l : Nat → Option (List (List UInt8))) (g : Nat → Bool) (f t : Int) (i : Nat) (ms : List (List UInt8)) (hl : isLine f t = true) (hm : (l (lnIx f t)).getD [] = ms) (hi : i < ms.length) (h64 : ms.length < 64) : Ev tab G0 n_net_Net_Double [.ptr 0 0, i64 f, i64 t, i64 i] [oN, oL l, oF g] = some ([.s .nilIface], [oN, oL (upd1 l (lnIx f t) (some (ms ++ [ms.getD i []]))), oF g]) := by
 refine Ev_run t_net_Net_Double rfl rfl ?_
 have h1 := net_Net_at_ev l g f t i ms hl hm hi
 have h2 := clone_rows_ev ms (by intro h; subst h; simp at hi) (by omega)
 have h3 : ¬ (ms.length : Int) ≥ 64 := by omega
 have h4 := x_upd l f t (ms.length + 1) 29 true (ms ++ [ms.getD i []]) hl (by simp)
 have h5 : eBs (ms ++ [ms.getD i []]) = eBs ms ++ [[.sl (eB (ms.getD i []))]] := by simp [eBs]
 have h6 := eBs_get hi
 rw [h5] at h4
 generalize ms.getD i [] = m at *
 simp (disch := omega) only [go_sem, seval, i_net_Net_Double, h1, h2, eBs_len, h3, h4, h6, hi, eBs_sz]
end Go.Proofs.Ytdgfbfkjdflabaa
namespace Go.Proofs.Ytdgfbfkjdflabaa
open Go.Ev
def atV (f t : Int) : Int := if isLine f t = true then 8 * f + t else -1
theorem law21_at_ev (f t : Int) : Ev tab G0 n_law21_at [i64 f, i64 t] [] = some ([i64 (atV f t)], []) := by
 refine Ev_run t_law21_at rfl rfl ?_
 by_cases hl : isLine f t = true
 ·have e : atV f t = 8 * f + t := if_pos hl
  rw [e]
  simp only [isLine, decide_eq_true_eq] at hl
  obtain ⟨h1, h2, h3, h4, h5⟩ := hl
  have a1 : ¬ f < 1 := by omega
  have a2 : ¬ f > 7 := by omega
  have a3 : ¬ t < 1 := by omega
  have a4 : ¬ t > 7 := by omega
  have a5 : (f == t) = false := by simpa using h5
  simp (disch := omega) only [go_sem, seval, i_law21_at, a1, a2, a3, a4, a5]
 ·have e : atV f t = -1 := if_neg hl
  rw [e]
  simp only [isLine, decide_eq_true_eq] at hl
  by_cases a1 : f < 1
  ·simp (disch := omega) only [go_sem, seval, i_law21_at, a1]
  by_cases a2 : f > 7
  ·simp (disch := omega) only [go_sem, seval, i_law21_at, a1, a2]
  by_cases a3 : t < 1
  ·simp (disch := omega) only [go_sem, seval, i_law21_at, a1, a2, a3]
  by_cases a4 : t > 7
  ·simp (disch := omega) only [go_sem, seval, i_law21_at, a1, a2, a3, a4]
  have a5 : (f == t) = true := by
   simp only [beq_iff_eq]
   omega
  simp (disch := omega) only [go_sem, seval, i_law21_at, a1, a2, a3, a4, a5]
def pickV (c n : Int) : Int := (if c < 0 then -(c + 1) else c) % n
theorem law21_pick_ev (c n : Int) (hc : inI c = true) (hn : 0 < n ∧ n ≤ 1000) : Ev tab G0 n_law21_pick [i64 c, i64 n] [] = some ([i64 (pickV c n)], []) := by
 refine Ev_run t_law21_pick rfl rfl ?_
 simp only [inI, decide_eq_true_eq] at hc
 have h0 : (n == 0) = false := by
  simp only [beq_eq_false_iff_ne]
  omega
 by_cases h : c < 0
 ·have e : pickV c n = (-(c + 1)).tmod n := by
   rw [pickV, if_pos h, Int.tmod_eq_emod_of_nonneg (by omega)]
  have b1 := Int.emod_lt_of_pos (-(c + 1)) hn.1
  have b2 := Int.emod_nonneg (-(c + 1)) (by omega : n ≠ 0)
  have b3 : (-(c + 1)).tmod n = (-(c + 1)) % n := Int.tmod_eq_emod_of_nonneg (by omega)
  rw [e]
  simp (disch := omega) only [go_sem, seval, i_law21_pick, h, h0, b3]
  rw [Int.zero_sub]
 ·have e : pickV c n = c.tmod n := by
   rw [pickV, if_neg h, Int.tmod_eq_emod_of_nonneg (by omega)]
  have b1 := Int.emod_lt_of_pos c hn.1
  have b2 := Int.emod_nonneg c (by omega : n ≠ 0)
  have b3 : c.tmod n = c % n := Int.tmod_eq_emod_of_nonneg (by omega)
  rw [e]
  simp (disch := omega) only [go_sem, seval, i_law21_pick, h, h0, b3]
abbrev mL (l : Nat → List (List UInt8)) : List (List C) := (List.range 64).map fun k => [.sl (eBs (l k))]
abbrev mF (g : Nat → Bool) : List (List C) := (List.range 64).map fun k => [.sc (.bool (g k))]
abbrev oM : Ev.Obj := .var [.row 1 64, .row 2 64]
theorem mL_get (l : Nat → List (List UInt8)) {k : Nat} (h : k < 64) : (mL l)[k]? = some [.sl (eBs (l k))] := by simp [h]
theorem mF_get (g : Nat → Bool) {k : Nat} (h : k < 64) : (mF g)[k]? = some [.sc (.bool (g k))] := by simp [h]
theorem mL_len (l : Nat → List (List UInt8)) : (mL l).length = 64 := by simp
theorem mF_len (g : Nat → Bool) : (mF g).length = 64 := by simp
theorem lnIx_lt {f t : Int} (h : isLine f t = true) : lnIx f t < 64 ∧ atV f t = (lnIx f t : Int) := by
 have e : atV f t = 8 * f + t := if_pos h
 simp only [isLine, decide_eq_true_eq] at h
 simp only [e, lnIx]
 omega
theorem law21_asked_line (l : Nat → List (List UInt8)) (g : Nat → Bool) (ol oo : Bool) (e1 e2 : Nat) (f t i : Int) (hl : isLine f t = true) : Ev tab G0 n_law21_model_asked [.ptr 0 0, i64 f, i64 t, i64 i] [oM, .row e1 1 ol false (mL l), .row e2 1 oo false (mF g)] = some ([i64 (if i < 0 ∨ (l (lnIx f t)).length ≤ i then 9 else 0)], [oM, .row e1 1 true false (mL l), .row e2 1 true false (mF g)]) := by
 refine Ev_run t_law21_model_asked rfl rfl ?_
 have h1 := law21_at_ev f t
 obtain ⟨h2, h3⟩ := lnIx_lt hl
 have h4 := mL_get l h2
 have h5 := mL_len l
 rw [h3] at h1
 generalize lnIx f t = k at *
 generalize mL l = L at *
 generalize mF g = F at *
 by_cases a1 : i < 0
 ·rw [if_pos (.inl a1)]
  simp (disch := omega) only [go_sem, seval, i_law21_model_asked, h1, h4, h5, h2, a1]
 ·by_cases a2 : i ≥ ((l k).length : Int)
  ·rw [if_pos (.inr a2)]
   simp (disch := omega) only [go_sem, seval, i_law21_model_asked, h1, h4, h5, h2, a1, a2, eBs_len]
  ·rw [if_neg (fun h => h.elim a1 a2)]
   simp (disch := omega) only [go_sem, seval, i_law21_model_asked, h1, h4, h5, h2, a1, a2, eBs_len]
theorem law21_asked_none (l : Nat → List (List UInt8)) (g : Nat → Bool) (ol oo : Bool) (e1 e2 : Nat) (f t i : Int) (hl : isLine f t = false) : Ev tab G0 n_law21_model_asked [.ptr 0 0, i64 f, i64 t, i64 i] [oM, .row e1 1 ol false (mL l), .row e2 1 oo false (mF g)] = some ([i64 1], [oM, .row e1 1 true false (mL l), .row e2 1 true false (mF g)]) := by
 refine Ev_run t_law21_model_asked rfl rfl ?_
 have h1 := law21_at_ev f t
 have e : atV f t = -1 := if_neg (by rw [hl]; decide)
 rw [e] at h1
 generalize mL l = L at *
 generalize mF g = F at *
 simp (disch := omega) only [go_sem, seval, i_law21_model_asked, h1]
theorem mL_set (l : Nat → List (List UInt8)) (k : Nat) (v : List (List UInt8)) : (mL l).set k [.sl (eBs v)] = mL (upd1 l k v) := by
 apply List.ext_getElem?
 intro i
 rw [List.getElem?_set]
 by_cases h : i < 64
 ·by_cases c : k = i
  ·subst c
   rw [if_pos rfl, if_pos (by rw [mL_len]; exact h)]
   have := mL_get (upd1 l k v) h
   rw [this, show upd1 l k v k = v from if_pos rfl]
  ·rw [if_neg c, mL_get _ h, mL_get _ h, show upd1 l k v i = l i from if_neg (Ne.symm c)]
 ·by_cases c : k = i
  ·subst c
   rw [if_pos rfl, if_neg (by rw [mL_len]; exact h), List.getElem?_eq_none (by rw [mL_len]; omega)]
  ·rw [if_neg c, List.getElem?_eq_none (by rw [mL_len]; omega), List.getElem?_eq_none (by rw [mL_len]; omega)]
theorem mF_set (g : Nat → Bool) (k : Nat) (v : Bool) : (mF g).set k [.sc (.bool v)] = mF (upd1 g k v) := by
 apply List.ext_getElem?
 intro i
 rw [List.getElem?_set]
 by_cases h : i < 64
 ·by_cases c : k = i
  ·subst c
   rw [if_pos rfl, if_pos (by rw [mF_len]; exact h)]
   have := mF_get (upd1 g k v) h
   rw [this, show upd1 g k v k = v from if_pos rfl]
  ·rw [if_neg c, mF_get _ h, mF_get _ h, show upd1 g k v i = g i from if_neg (Ne.symm c)]
 ·by_cases c : k = i
  ·subst c
   rw [if_pos rfl, if_neg (by rw [mF_len]; exact h), List.getElem?_eq_none (by rw [mF_len]; omega)]
  ·rw [if_neg c, List.getElem?_eq_none (by rw [mF_len]; omega), List.getElem?_eq_none (by rw [mF_len]; omega)]
end Go.Proofs.Ytdgfbfkjdflabaa
namespace Go.Proofs.Ytdgfbfkjdflabaa
open Go.Ev
def cnt : Nat → Int → Int → Int
 | 0, _, n => n
 | f + 1, v, n => if n < 8 then (if 0 < v.fdiv (2 ^ (min (8 * n).toNat 64)) then cnt f v (n + 1) else n) else n
theorem num_loop0 : ∀ (f : Nat) (v n : Int), 1 ≤ n → n ≤ 8 → 8 - n ≤ f → L_coder_Number_0 (s_coder_Number_K0 (u64 v) (i64 n) [none]) = some (.exit 0, s_coder_Number_J0 (u64 v) (i64 (cnt f v n)) [none])
 | 0, v, n, h1, h2, h3 => by
  rw [L_coder_Number_0_eq]
  simp (disch := omega) only [go_sem, seval, i_coder_Number_b0, cnt]
 | f + 1, v, n, h1, h2, h3 => by
  rw [L_coder_Number_0_eq]
  by_cases h8 : n < 8
  ·have ih := num_loop0 f v (n + 1) (by omega) (by omega) (by omega)
   simp (disch := omega) only [go_sem, seval, i_coder_Number_b0, cnt, ih]
   split <;> rfl
  ·simp (disch := omega) only [go_sem, seval, i_coder_Number_b0, cnt]
theorem cnt_le : ∀ (f : Nat) (v n : Int), 1 ≤ n → n ≤ 8 → 1 ≤ cnt f v n ∧ cnt f v n ≤ 8
 | 0, v, n, h1, h2 => ⟨h1, h2⟩
 | f + 1, v, n, h1, h2 => by
  simp only [cnt]
  split
  ·split
   ·exact cnt_le f v (n + 1) (by omega) (by omega)
   ·exact ⟨h1, h2⟩
  ·exact ⟨h1, h2⟩
def dgs (v : Int) : Nat → List UInt8
 | 0 => []
 | f + 1 => byt (v.fdiv (2 ^ (min (8 * (f : Int)).toNat 64))) :: dgs v f
theorem num_loop1 : ∀ (f : Nat) (v n i : Int) (l : List UInt8), 0 ≤ i → i + f = n → n ≤ 8 → l.length + f < 20 → L_coder_Number_1 (s_coder_Number_K1 (u64 v) (i64 n) (.row 0 l.length) (i64 n) (i64 i) [some (.row ty_uint8 1 true false (eB l))]) = some (.exit 2, s_coder_Number_J2 (.row 0 (l.length + f)) [some (.row ty_uint8 1 true false (eB (l ++ dgs v f)))])
 | 0, v, n, i, l, h1, h2, h3, h4 => by
  rw [L_coder_Number_1_eq]
  simp (disch := omega) only [go_sem, seval, i_coder_Number_b1, dgs]
 | f + 1, v, n, i, l, h1, h2, h3, h4 => by
  rw [L_coder_Number_1_eq]
  have ih := num_loop1 f v n (i + 1) (l ++ [byt (v.fdiv (2 ^ (min (8 * (f : Int)).toNat 64)))]) (by omega) (by omega) (by omega) (by simp; omega)
  have e : n - 1 - i = f := by omega
  simp (disch := omega) only [go_sem, seval] at ih
  simp (disch := omega) only [go_sem, seval, i_coder_Number_b1, dgs, e, ih, Nat.add_assoc, Nat.add_comm 1 f]
def beB : Nat → Int → List UInt8
 | 0, _ => []
 | k + 1, v => beB k (v / 256) ++ [byt v]
theorem byt_mod {n : Int} : byt (n % 256) = byt n := by simp [byt]
theorem fdiv_pow {v : Int} {f : Nat} (hf : f ≤ 8) : v.fdiv (2 ^ (min (8 * (f : Int)).toNat 64)) = v / 256 ^ f := by
 rw [Int.fdiv_eq_ediv_of_nonneg _ (Int.le_of_lt (Int.pow_pos (by decide)))]
 congr 1
 have : min (8 * (f : Int)).toNat 64 = 8 * f := by omega
 rw [this, Int.pow_mul]
 rfl
theorem dgs_eq : ∀ (f : Nat) (v : Int), f ≤ 8 → dgs v f = beB f v := by
 have key : ∀ (f : Nat) (v : Int), f + 1 ≤ 8 → beB (f + 1) v = byt (v / 256 ^ f) :: beB f v := by
  intro f
  induction f with
  | zero => intro v _; simp [beB]
  | succ f ih =>
   intro v h
   rw [beB, ih (v / 256) (by omega), beB]
   have : v / 256 / 256 ^ f = v / 256 ^ (f + 1) := by
    rw [Int.ediv_ediv_of_nonneg (by decide)]
    congr 1
    rw [Int.pow_succ, Int.mul_comm]
   simp [this]
 intro f
 induction f with
 | zero => intro v _; rfl
 | succ f ih =>
  intro v h
  rw [key f v h, dgs, fdiv_pow (by omega), ih v (by omega)]
def nby : Nat → Int → Nat
 | 0, _ => 0
 | k + 1, v => if v ≤ 0 then 0 else nby k (v / 256) + 1
def num (v : Int) : List UInt8 := if v ≤ 247 then [byt v] else byt (247 + nby 8 v) :: beB (nby 8 v) v
theorem beB_len : ∀ (k : Nat) (v : Int), (beB k v).length = k
 | 0, _ => rfl
 | k + 1, v => by simp [beB, beB_len k]
theorem cnt_nby : ∀ (f n : Nat) (v : Int), 1 ≤ n → n + f = 8 → 0 ≤ v → cnt f v n = n + nby f (v / 256 ^ n)
 | 0, n, v, h1, h2, h3 => by simp [cnt, nby]
 | f + 1, n, v, h1, h2, h3 => by
  have ih := cnt_nby f (n + 1) v (by omega) (by omega) h3
  simp only [cnt, nby]
  rw [if_pos (by omega), fdiv_pow (by omega)]
  have e : v / 256 ^ n / 256 = v / 256 ^ (n + 1) := by rw [Int.ediv_ediv_of_nonneg (Int.le_of_lt (Int.pow_pos (by decide))), Int.pow_succ]
  by_cases h : 0 < v / 256 ^ n
  ·rw [if_pos h, if_neg (by omega), e]
   have : ((n : Int) + 1) = ((n + 1 : Nat) : Int) := by omega
   rw [this, ih]
   omega
  ·rw [if_neg h, if_pos (by omega)]
   omega
theorem nby_le : ∀ (k : Nat) (v : Int), nby k v ≤ k
 | 0, _ => Nat.le_refl _
 | k + 1, v => by
  simp only [nby]
  split
  ·omega
  ·have := nby_le k (v / 256); omega
theorem nby_pos {v : Int} (h : 0 < v) : nby 8 v = nby 7 (v / 256) + 1 := by
 rw [nby, if_neg (by omega)]
theorem num_len (v : Int) : (num v).length ≤ 9 ∧ 1 ≤ (num v).length := by
 unfold num
 have := nby_le 8 v
 split
 ·simp
 ·simp [beB_len]; omega
theorem coder_Number_ev (v : Int) (h : 0 ≤ v ∧ v < 18446744073709551616) : Ev tab G0 n_coder_Number [u64 v] [] = some ([.row 0 (num v).length], [.row ty_uint8 1 true false (eB (num v))]) := by
 have c := nby_le 8 v
 have h0 := num_loop0 7 v 1 (by omega) (by omega) (by omega)
 by_cases hv : v ≤ 247
 ·refine Ev_run t_coder_Number rfl rfl ?_
  simp (disch := omega) only [go_sem, seval, i_coder_Number, num]
 ·have e := cnt_nby 7 1 v (by omega) (by omega) h.1
  have e' : (1 : Int) + nby 7 (v / 256 ^ 1) = (nby 8 v : Nat) := by
   rw [nby_pos (by omega)]
   have : v / 256 ^ 1 = v / 256 := rfl
   rw [this]
   omega
  have e2 : cnt 7 v 1 = (nby 8 v : Nat) := by rw [← e']; exact e
  rw [e2] at h0
  have h1 := num_loop1 (nby 8 v) v (nby 8 v) 0 [byt (247 + nby 8 v)] (by omega) (by omega) (by omega) (by simp; omega)
  rw [dgs_eq _ _ c] at h1
  have hlen : (num v).length = 1 + nby 8 v := by
   unfold num
   rw [if_neg hv]
   simp [beB_len]
   omega
  have hp : 1 ≤ nby 8 v := by rw [nby_pos (by omega)]; omega
  try simp (disch := omega) only [go_sem, seval] at h1
  rw [hlen]
  refine Ev_run t_coder_Number rfl rfl ?_
  simp (disch := omega) only [go_sem, seval, i_coder_Number, h0, h1, num]
theorem rnum_loop0 : ∀ (k : Nat) (v : Int) (l : List UInt8), 0 ≤ v → v < 256 ^ k → v < 18446744073709551616 → l.length + k < 100 → L_ref02_Number_0 (s_ref02_Number_K0 (u64 v) (.sl true (eB l)) [none, none]) = some (.exit 0, s_ref02_Number_J0 (.sl true (eB (beB (nby k v) v ++ l))) [none, none])
 | 0, v, l, h0, h1, h2, h3 => by
  obtain rfl : v = 0 := by simp at h1; omega
  rw [L_ref02_Number_0_eq]
  simp (disch := omega) only [go_sem, seval, i_ref02_Number_b0, nby, beB]
 | k + 1, v, l, h0, h1, h2, h3 => by
  rw [L_ref02_Number_0_eq]
  by_cases hv : v = 0
  ·subst hv
   simp (disch := omega) only [go_sem, seval, i_ref02_Number_b0, nby, beB]
  ·have : v < 256 ^ k * 256 := by rw [← Int.pow_succ]; exact h1
   have ih := rnum_loop0 k (v / 256) (byt v :: l) (by omega) (by omega) (by omega) (by simp; omega)
   try simp (disch := omega) only [go_sem, seval] at ih
   simp (disch := omega) only [go_sem, seval, i_ref02_Number_b0, nby, beB, byt_mod, ih]
theorem ref02_Number_ev (v : Int) (h : 0 ≤ v ∧ v < 18446744073709551616) : Ev tab G0 n_ref02_Number [u64 v] [] = some ([.row 0 (num v).length], [.row ty_uint8 1 true false (eB (num v))]) := by
 have c := nby_le 8 v
 have h0 := rnum_loop0 8 v [] h.1 (by omega) h.2 (by simp)
 try simp (disch := omega) only [go_sem, seval] at h0
 by_cases hv : v ≤ 247
 ·refine Ev_run t_ref02_Number rfl rfl ?_
  simp (disch := omega) only [go_sem, seval, i_ref02_Number, num]
 ·have hp : 1 ≤ nby 8 v := by rw [nby_pos (by omega)]; omega
  have hlen : (num v).length = 1 + nby 8 v := by
   unfold num
   rw [if_neg hv]
   simp [beB_len]
   omega
  rw [hlen]
  refine Ev_run t_ref02_Number rfl rfl ?_
  simp (disch := omega) only [go_sem, seval, i_ref02_Number, num, h0, beB_len, Nat.add_comm 1 (nby 8 v)]
end Go.Proofs.Ytdgfbfkjdflabaa
namespace Go.Proofs.Ytdgfbfkjdflabaa
open Go.Ev
theorem clone_bytes_ev (l : List UInt8) (h : l.length ≤ 140737488355328) : Ev tab G0 n_slices_Clone_sl_byte_byte [.sl true (eB l)] [] = some ([.sl true (eB l)], []) := by
 cases l with
 | nil =>
  refine Ev_nilq t_slices_Clone_sl_byte_byte rfl rfl (evFn1_run rfl ?_) (evFn1_run rfl ?_)
  ·simp (disch := omega) only [go_sem, seval, i_slices_Clone_sl_byte_byte]
  ·simp (disch := omega) only [go_sem, seval, i_slices_Clone_sl_byte_byte]
 | cons b l =>
  simp only [List.length_cons] at h
  rw [show eB (b :: l) = e1 b :: eB l from rfl]
  refine Ev_notnil t_slices_Clone_sl_byte_byte rfl rfl (evFn1_run rfl ?_)
  simp (disch := omega) only [go_sem, seval, i_slices_Clone_sl_byte_byte]
end Go.Proofs.Ytdgfbfkjdflabaa
namespace Go.Proofs.Ytdgfbfkjdflabaa
open Go.Ev
abbrev errA (c : Int) : AV := .s (.iface ty_api_Code (.int .i64 c))
def errV (c : Int) : AV := if c = 0 then .s .nilIface else errA c
theorem code_0 : evN tab G0 30 n_law00_Code [.s .nilIface] [] = some ([i64 0], []) := by kernel_rfl
theorem code_1 : evN tab G0 30 n_law00_Code [errA 1] [] = some ([i64 1], []) := by kernel_rfl
theorem code_2 : evN tab G0 30 n_law00_Code [errA 2] [] = some ([i64 2], []) := by kernel_rfl
theorem code_3 : evN tab G0 30 n_law00_Code [errA 3] [] = some ([i64 3], []) := by kernel_rfl
theorem code_4 : evN tab G0 30 n_law00_Code [errA 4] [] = some ([i64 4], []) := by kernel_rfl
theorem code_5 : evN tab G0 30 n_law00_Code [errA 5] [] = some ([i64 5], []) := by kernel_rfl
theorem code_6 : evN tab G0 30 n_law00_Code [errA 6] [] = some ([i64 6], []) := by kernel_rfl
theorem code_7 : evN tab G0 30 n_law00_Code [errA 7] [] = some ([i64 7], []) := by kernel_rfl
theorem code_8 : evN tab G0 30 n_law00_Code [errA 8] [] = some ([i64 8], []) := by kernel_rfl
theorem code_9 : evN tab G0 30 n_law00_Code [errA 9] [] = some ([i64 9], []) := by kernel_rfl
theorem code_10 : evN tab G0 30 n_law00_Code [errA 10] [] = some ([i64 10], []) := by kernel_rfl
theorem code_11 : evN tab G0 30 n_law00_Code [errA 11] [] = some ([i64 11], []) := by kernel_rfl
theorem code_12 : evN tab G0 30 n_law00_Code [errA 12] [] = some ([i64 12], []) := by kernel_rfl
theorem code_13 : evN tab G0 30 n_law00_Code [errA 13] [] = some ([i64 13], []) := by kernel_rfl
theorem law00_Code_ev (c : Int) (h : 0 ≤ c ∧ c ≤ 13) : Ev tab G0 n_law00_Code [errV c] [] = some ([i64 c], []) := by
 have : c = 0 ∨ c = 1 ∨ c = 2 ∨ c = 3 ∨ c = 4 ∨ c = 5 ∨ c = 6 ∨ c = 7 ∨ c = 8 ∨ c = 9 ∨ c = 10 ∨ c = 11 ∨ c = 12 ∨ c = 13 := by omega
 rcases this with rfl | rfl | rfl | rfl | rfl | rfl | rfl | rfl | rfl | rfl | rfl | rfl | rfl | rfl
 ·exact Ev_by 30 code_0
 ·exact Ev_by 30 code_1
 ·exact Ev_by 30 code_2
 ·exact Ev_by 30 code_3
 ·exact Ev_by 30 code_4
 ·exact Ev_by 30 code_5
 ·exact Ev_by 30 code_6
 ·exact Ev_by 30 code_7
 ·exact Ev_by 30 code_8
 ·exact Ev_by 30 code_9
 ·exact Ev_by 30 code_10
 ·exact Ev_by 30 code_11
 ·exact Ev_by 30 code_12
 ·exact Ev_by 30 code_13
theorem errV_ren (r : Nat → Nat) (c : Int) : (errV c).ren r = errV c := by unfold errV; split <;> rfl
attribute [go_sem] errV_ren
end Go.Proofs.Ytdgfbfkjdflabaa
namespace Go.Proofs.Ytdgfbfkjdflabaa
open Go.Ev
def byts (b : List UInt8) : List UInt8 := num b.length ++ b
theorem byts_len (b : List UInt8) : (byts b).length ≤ b.length + 9 := by
 have := num_len b.length
 simp [byts]; omega
theorem coder_Bytes_ev (b : List UInt8) (h : b.length ≤ 1073741824) : Ev tab G0 n_coder_Bytes [.sl true (eB b)] [] = some ([.sl true (eB (byts b))], []) := by
 have h1 := coder_Number_ev b.length (by omega)
 have h2 := num_len b.length
 refine Ev_run t_coder_Bytes rfl rfl ?_
 simp (disch := omega) only [go_sem, seval, i_coder_Bytes, h1, byts]
theorem ref02_Bytes_ev (b : List UInt8) (h : b.length ≤ 1073741824) : Ev tab G0 n_ref02_Bytes [.sl true (eB b)] [] = some ([.sl true (eB (byts b))], []) := by
 have h1 := ref02_Number_ev b.length (by omega)
 have h2 := num_len b.length
 refine Ev_run t_ref02_Bytes rfl rfl ?_
 simp (disch := omega) only [go_sem, seval, i_ref02_Bytes, h1, byts]
structure Rd where
 b : List UInt8
 bad : Bool
abbrev rO (r : Rd) : Ev.Obj := .var [.sl true (eB r.b), bo r.bad]
def Rd.take (r : Rd) (n : Int) : List UInt8 × Rd := if r.bad = true then ([], ⟨r.b, true⟩) else if r.b.length < n then ([], ⟨r.b, true⟩) else (r.b.take n.toNat, ⟨r.b.drop n.toNat, false⟩)
theorem Rd.take_le (r : Rd) (n : Int) : (r.take n).1.length ≤ r.b.length ∧ (r.take n).1.length ≤ n.toNat ∧ (r.take n).2.b.length ≤ r.b.length := by
 unfold Rd.take
 split
 ·simp
 ·split
  ·simp
  ·simp
   omega
theorem coder_NewReader_ev (b : List UInt8) (h : b.length ≤ 1073741824) : Ev tab G0 n_coder_NewReader [.sl true (eB b)] [] = some ([.ptr 0 0], [rO ⟨b, false⟩]) := by
 have h1 := clone_bytes_ev b (by omega)
 refine Ev_run t_coder_NewReader rfl rfl ?_
 simp (disch := omega) only [go_sem, seval, i_coder_NewReader, h1]
theorem coder_take_ev (r : Rd) (n : Int) (hn : 0 ≤ n ∧ n < 9223372036854775808) (h : r.b.length ≤ 1073741824) : Ev tab G0 n_coder_Reader_take [.ptr 0 0, i64 n] [rO r] = some ([.sl true (eB (r.take n).1)], [rO (r.take n).2]) := by
 obtain ⟨b, bad⟩ := r
 refine Ev_run t_coder_Reader_take rfl rfl ?_
 simp only [Rd.take] at h ⊢
 simp (disch := omega) only [go_sem, seval, i_coder_Reader_take]
 cases bad <;> simp only [Bool.false_eq_true, if_false, if_true, Bool.true_eq_false]
 ·split <;> rfl
 ·rfl
def Rd.byte (r : Rd) : UInt8 × Rd := ((r.take 1).1.getD 0 0, (r.take 1).2)
theorem coder_Byte_ev (r : Rd) (h : r.b.length ≤ 1073741824) : Ev tab G0 n_coder_Reader_Byte [.ptr 0 0] [rO r] = some ([u8 r.byte.1.toNat], [rO r.byte.2]) := by
 have h1 := coder_take_ev r 1 (by omega) h
 refine Ev_run t_coder_Reader_Byte rfl rfl ?_
 simp only [Rd.byte]
 generalize r.take 1 = q at *
 obtain ⟨l, r2⟩ := q
 cases l with
 | nil => simp (maxSteps := 1000000) (disch := first | omega | (simp only [lens, List.length_map]; omega)) only [go_sem, seval, i_coder_Reader_Byte, h1]; simp
 | cons x l => simp (maxSteps := 1000000) (disch := first | omega | (simp only [lens, List.length_map]; omega)) only [go_sem, seval, i_coder_Reader_Byte, h1]
def beV (l : List UInt8) : Int := l.foldl (fun v x => v * 256 + x.toNat) 0
def Rd.num (r : Rd) : Int × Rd :=
 if r.byte.1.toNat ≤ 247 then (r.byte.1.toNat, r.byte.2) else
 let q := r.byte.2.take (r.byte.1.toNat - 247)
 if q.1.length = 0 ∨ q.1.getD 0 0 = 0 ∨ beV q.1 ≤ 247 then (0, ⟨q.2.b, true⟩) else (beV q.1, q.2)
theorem beV_snoc (l : List UInt8) (x : UInt8) : beV (l ++ [x]) = beV l * 256 + x.toNat := by simp [beV]
theorem beV_nn : ∀ (l : List UInt8), 0 ≤ beV l ∧ beV l < 256 ^ l.length := by
 intro l
 have key : ∀ (n : Nat) (l : List UInt8), l.length = n → 0 ≤ beV l ∧ beV l < 256 ^ n := by
  intro n
  induction n with
  | zero => intro l h; simp at h; subst h; simp [beV]
  | succ n ih =>
   intro l h
   rcases List.eq_nil_or_concat l with rfl | ⟨l', x, rfl⟩
   ·simp at h
   ·simp at h
    obtain ⟨h1, h2⟩ := ih l' h
    have := x.toNat_lt
    rw [List.concat_eq_append, beV_snoc, Int.pow_succ]
    omega
 exact key _ l rfl
theorem beV_lt {l : List UInt8} {n : Nat} (h : l.length ≤ n) (hn : n ≤ 8) : 0 ≤ beV l ∧ beV l < 256 ^ n := by
 have := beV_nn l
 have h2 := Nat.pow_le_pow_right (n := 256) (by decide) h
 exact ⟨this.1, Int.lt_of_lt_of_le this.2 (by exact_mod_cast h2)⟩
theorem take_snoc {l : List UInt8} {i : Nat} (h : i < l.length) : l.take (i + 1) = l.take i ++ [l.getD i 0] := by
 rw [List.take_add_one, List.getElem?_eq_getElem h]
 simp [List.getD, h]
theorem creader_loop : ∀ (n : Nat) (l : List UInt8) (i : Int) (r : Rd), 0 ≤ i → i + n = l.length → l.length ≤ 8 → L_coder_Reader_Number_0 (s_coder_Reader_Number_K0 (.ptr 0 0) (.sl true (eB l)) (u64 (beV (l.take i.toNat))) (.sl true (eB l)) (i64 l.length) (i64 i) [some (rO r)]) = some (.exit 0, s_coder_Reader_Number_J0 (.ptr 0 0) (.sl true (eB l)) (u64 (beV l)) [some (rO r)])
 | 0, l, i, r, h1, h2, h3 => by
  rw [L_coder_Reader_Number_0_eq]
  have : l.take i.toNat = l := List.take_of_length_le (by omega)
  simp (disch := omega) only [go_sem, seval, i_coder_Reader_Number_b0, this]
 | n + 1, l, i, r, h1, h2, h3 => by
  rw [L_coder_Reader_Number_0_eq]
  have ih := creader_loop n l (i + 1) r (by omega) (by omega) h3
  have e : (i + 1).toNat = i.toNat + 1 := by omega
  rw [e, take_snoc (by omega), beV_snoc] at ih
  have h4 := beV_lt (l := l.take i.toNat) (n := 7) (by simp; omega) (by omega)
  have h5 := (l.getD i.toNat 0).toNat_lt
  simp (disch := omega) only [go_sem, seval, i_coder_Reader_Number_b0, or_low, ih]
theorem u8z {x : UInt8} : ((x.toNat : Int) = 0) = (x = 0) := by
 refine propext ⟨fun h => ?_, fun h => by subst h; rfl⟩
 have h2 : x.toNat = 0 := by omega
 exact UInt8.toNat_inj.1 (by simpa using h2)
theorem Rd.byte_le (r : Rd) : r.byte.2.b.length ≤ r.b.length := (r.take_le 1).2.2
theorem coder_ReaderNumber_ev (r : Rd) (h : r.b.length ≤ 1073741824) : Ev tab G0 n_coder_Reader_Number [.ptr 0 0] [rO r] = some ([u64 r.num.1], [rO r.num.2]) := by
 have h1 := coder_Byte_ev r h
 have h2 := r.byte_le
 simp only [Rd.num]
 generalize r.byte = q at *
 obtain ⟨c, r1⟩ := q
 simp only at *
 have hc := c.toNat_lt
 by_cases hc2 : c.toNat ≤ 247
 ·rw [if_pos hc2]
  refine Ev_run t_coder_Reader_Number rfl rfl ?_
  simp (disch := omega) only [go_sem, seval, i_coder_Reader_Number, h1]
 ·rw [if_neg hc2]
  have h3 := coder_take_ev r1 (c.toNat - 247) (by omega) (by omega)
  have h4 := r1.take_le (c.toNat - 247)
  generalize r1.take (c.toNat - 247) = q at *
  obtain ⟨l, r2⟩ := q
  simp only at *
  have h5 := creader_loop l.length l 0 r2 (by omega) (by omega) (by omega)
  try simp (disch := omega) only [go_sem, seval] at h5
  have e0 : beV [] = 0 := rfl
  rw [e0] at h5
  refine Ev_run t_coder_Reader_Number rfl rfl ?_
  simp (disch := omega) only [go_sem, seval, i_coder_Reader_Number, h1, h3, h5, u8z]
  (repeat' split) <;> first | rfl | (exfalso; omega) | (simp_all; done) | (simp_all; omega)
theorem Rd.num_le (r : Rd) : r.num.2.b.length ≤ r.b.length ∧ 0 ≤ r.num.1 ∧ r.num.1 < 18446744073709551616 := by
 have h2 := r.byte_le
 simp only [Rd.num]
 have hc := r.byte.1.toNat_lt
 split
 ·simp only; omega
 ·rename_i h1
  have h4 := r.byte.2.take_le (r.byte.1.toNat - 247)
  have h5 := beV_lt (l := (r.byte.2.take (r.byte.1.toNat - 247)).1) (n := 8) (by omega) (by omega)
  split
  ·simp only; omega
  ·simp only; omega
def Rd.bytes (r : Rd) (most : Int) : List UInt8 × Rd := let q := r.num
 if q.2.bad = true ∨ most < 0 ∨ most < q.1 ∨ q.2.b.length < q.1 then ([], ⟨q.2.b, true⟩) else q.2.take q.1
theorem coder_ReaderBytes_ev (r : Rd) (most : Int) (hm : -9223372036854775808 ≤ most ∧ most < 9223372036854775808) (h : r.b.length ≤ 1073741824) : Ev tab G0 n_coder_Reader_Bytes [.ptr 0 0, i64 most] [rO r] = some ([.sl true (eB (r.bytes most).1)], [rO (r.bytes most).2]) := by
 have h1 := coder_ReaderNumber_ev r h
 have h2 := r.num_le
 simp only [Rd.bytes]
 generalize r.num = q at *
 obtain ⟨n, r1⟩ := q
 simp only at *
 have h3 := fun (hn : 0 ≤ n ∧ n < 9223372036854775808) => coder_take_ev r1 n hn (by omega)
 refine Ev_run t_coder_Reader_Bytes rfl rfl ?_
 simp (maxSteps := 1000000) (disch := first | omega | (simp only [lens, List.length_map]; omega)) only [go_sem, seval, i_coder_Reader_Bytes, h1, h3]
 (repeat' split) <;> first | rfl | (exfalso; omega) | (simp_all; done) | (simp_all; omega)
def Rd.fin (r : Rd) : Int := if r.bad = true then 3 else if r.b.length > 0 then 4 else 0
theorem coder_End_ev (r : Rd) (h : r.b.length ≤ 1073741824) : Ev tab G0 n_coder_Reader_End [.ptr 0 0] [rO r] = some ([errV r.fin], [rO r]) := by
 refine Ev_run t_coder_Reader_End rfl rfl ?_
 simp (disch := omega) only [go_sem, seval, i_coder_Reader_End, Rd.fin, errV]
 (repeat' split) <;> first | rfl | (exfalso; omega) | (simp_all; done) | (simp_all; omega)
end Go.Proofs.Ytdgfbfkjdflabaa
namespace Go.Proofs.Ytdgfbfkjdflabaa
open Go.Ev
structure Rf where
 B : List UInt8
 p : Nat
 bad : Bool
def Rf.ok (r : Rf) : Prop := r.B.length ≤ 1073741824 ∧ r.p ≤ r.B.length
def Rf.byte (r : Rf) : UInt8 × Rf := if r.bad = true then (0, ⟨r.B, r.p, true⟩) else if r.B.length ≤ r.p then (0, ⟨r.B, r.p, true⟩) else (r.B.getD r.p 0, ⟨r.B, r.p + 1, false⟩)
def Rf.num (r : Rf) : Int × Rf := let q := r.byte
 if q.2.bad = true then (q.1.toNat, q.2) else if q.1.toNat < 248 then (q.1.toNat, q.2) else
 let n := q.1.toNat - 247
 if q.2.B.length - q.2.p < n then (0, ⟨q.2.B, q.2.p, true⟩) else
 let l := (q.2.B.drop q.2.p).take n
 if l.getD 0 0 = 0 ∨ beV l < 248 then (0, ⟨q.2.B, q.2.p, true⟩) else (beV l, ⟨q.2.B, q.2.p + n, q.2.bad⟩)
def Rf.bytes (r : Rf) (most : Int) : List UInt8 × Rf := let q := r.num
 if q.2.bad = true ∨ most < 0 ∨ most < q.1 ∨ (q.2.B.length - q.2.p : Nat) < q.1 then ([], ⟨q.2.B, q.2.p, true⟩) else ((q.2.B.drop q.2.p).take q.1.toNat, ⟨q.2.B, q.2.p + q.1.toNat, q.2.bad⟩)
def Rf.fin (r : Rf) : Int := if r.bad = true then 3 else if r.p < r.B.length then 4 else 0
end Go.Proofs.Ytdgfbfkjdflabaa
namespace Go.Proofs.Ytdgfbfkjdflabaa
open Go.Ev
structure Wr where
 b : List UInt8
 bad : Bool
def badN (n : Int) : Bool := decide (n < 0 ∨ 1152921504606846976 < n)
def Wr.cnts (w : Wr) : List Int → Wr
 | [] => w
 | n :: r => if badN n = true then ⟨w.b, true⟩ else Wr.cnts ⟨w.b ++ num n, w.bad⟩ r
def Wr.byt (w : Wr) (x : List UInt8) (most : Int) : Wr := if w.bad = true ∨ most < x.length then ⟨w.b, true⟩ else ⟨w.b ++ byts x, false⟩
abbrev oWr (a : AV) (bad : Bool) : Ev.Obj := .var [a, bo bad]
abbrev rowB2 (l : List UInt8) : Ev.Obj := .row ty_uint8 1 true false (eB l)
def inW (w : Wr) : List Ev.Obj := match w.b with
 | [] => [oWr .nilsl w.bad]
 | x :: l => [oWr (.row 1 (l.length + 1)) w.bad, rowB2 (x :: l)]
theorem inW_nil {w : Wr} (h : w.b = []) : inW w = [oWr .nilsl w.bad] := by unfold inW; rw [h]
theorem inW_ne {w : Wr} (h : w.b ≠ []) : inW w = [oWr (.row 1 w.b.length) w.bad, rowB2 w.b] := by
 unfold inW
 cases hb : w.b with
 | nil => exact absurd hb h
 | cons x l => rfl
theorem num_ne (n : Int) : num n ≠ [] := by
 have := (num_len n).2
 intro h
 rw [h] at this
 simp at this
theorem num_emp (n : Int) : (eB (num n)).isEmpty = false := by
 cases h : num n with
 | nil => exact absurd h (num_ne n)
 | cons x l => rfl
theorem cnts_len (w : Wr) : ∀ l : List Int, (w.cnts l).b.length ≤ w.b.length + 9 * l.length := fun l => by
 induction l generalizing w with
 | nil => simp [Wr.cnts]
 | cons n r ih =>
  unfold Wr.cnts
  split
  ·simp only; omega
  ·have := ih ⟨w.b ++ num n, w.bad⟩
   have hn := (num_len n).1
   simp only [List.length_append, List.length_cons] at this ⊢
   omega
theorem cnts_ne (w : Wr) (h : w.b ≠ []) : ∀ l : List Int, (w.cnts l).b ≠ [] := fun l => by
 induction l generalizing w with
 | nil => exact h
 | cons n r ih =>
  unfold Wr.cnts
  split
  ·exact h
  ·exact ih ⟨w.b ++ num n, w.bad⟩ (fun x => num_ne n (List.append_eq_nil_iff.1 x).2)
theorem badN_lo {n : Int} (h : n < 0) : badN n = true := by unfold badN; rw [decide_eq_true_eq]; exact .inl h
theorem badN_hi {n : Int} (h : 1152921504606846976 < n) : badN n = true := by unfold badN; rw [decide_eq_true_eq]; exact .inr h
theorem badN_ok {n : Int} (h : 0 ≤ n ∧ n ≤ 1152921504606846976) : badN n = false := by unfold badN; rw [decide_eq_false_iff_not]; omega
theorem cnts_bad {w : Wr} {n : Int} {r : List Int} (h : badN n = true) : w.cnts (n :: r) = ⟨w.b, true⟩ := by
 conv => lhs; unfold Wr.cnts
 rw [if_pos h]
theorem cnts_ok {w : Wr} {n : Int} {r : List Int} (h : badN n = false) : w.cnts (n :: r) = Wr.cnts ⟨w.b ++ num n, w.bad⟩ r := by
 conv => lhs; unfold Wr.cnts
 rw [h, if_neg (by simp)]
theorem cnts_loopC (l : List Int) (hl : l.length ≤ 1048576) : ∀ (n i : Nat) (w : Wr), n + i = l.length → w.b ≠ [] → w.b.length + 9 * n ≤ 1073741824 → L_entry_writer_counts_0 (s_entry_writer_counts_K0 (.ptr 2 0) (.sl true (eI .i64 l)) (i64 l.length) (i64 i) [none, none, some (oWr (.row 3 w.b.length) w.bad), some (rowB2 w.b)]) = some ((if (l.drop i).any badN = true then .ret else .exit 0), s_entry_writer_counts_J0 [none, none, some (oWr (.row 3 (w.cnts (l.drop i)).b.length) (w.cnts (l.drop i)).bad), some (rowB2 (w.cnts (l.drop i)).b)])
 | 0, i, w, h, hne, hb => by
  rw [List.drop_of_length_le (by omega), L_entry_writer_counts_0_eq]
  simp only [List.any_nil, Wr.cnts, Bool.false_eq_true, if_false]
  simp (disch := omega) only [go_sem, seval, i_entry_writer_counts_b0]
 | n + 1, i, w, h, hne, hb => by
  rw [drop_step (d := 0) (by omega), L_entry_writer_counts_0_eq, List.any_cons]
  by_cases c1 : l.getD i 0 < 0
  ·rw [cnts_bad (badN_lo c1), badN_lo c1, Bool.true_or, if_pos rfl]
   generalize hd : l.getD i 0 = x at *
   simp (disch := omega) only [go_sem, seval, i_entry_writer_counts_b0, hd, c1]
  ·by_cases c2 : 1152921504606846976 < l.getD i 0
   ·rw [cnts_bad (badN_hi c2), badN_hi c2, Bool.true_or, if_pos rfl]
    generalize hd : l.getD i 0 = x at *
    simp (disch := omega) only [go_sem, seval, i_entry_writer_counts_b0, hd, c1, c2]
   ·have hk := badN_ok (n := l.getD i 0) (by omega)
    have hnl := num_len (l.getD i 0)
    have hne2 : w.b ++ num (l.getD i 0) ≠ [] := fun x => hne (List.append_eq_nil_iff.1 x).1
    have ih := cnts_loopC l hl n (i + 1) ⟨w.b ++ num (l.getD i 0), w.bad⟩ (by omega) hne2 (by simp only [List.length_append]; omega)
    have h1 := coder_Number_ev (l.getD i 0) (by omega)
    rw [cnts_ok hk, hk, Bool.false_or]
    have hla : (w.b ++ num (l.getD i 0)).length = w.b.length + (num (l.getD i 0)).length := List.length_append
    simp only [hla] at ih
    generalize Wr.cnts ⟨w.b ++ num (l.getD i 0), w.bad⟩ (l.drop (i + 1)) = w2 at *
    generalize hd : l.getD i 0 = x at *
    generalize hnx : num x = nx at *
    try simp (disch := omega) only [go_sem, seval] at ih
    simp (disch := omega) only [go_sem, seval, i_entry_writer_counts_b0, hd, c1, c2, h1, ih]
end Go.Proofs.Ytdgfbfkjdflabaa
