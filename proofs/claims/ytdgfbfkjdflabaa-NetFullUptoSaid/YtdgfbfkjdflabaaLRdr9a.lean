/-
  A map is gone through: the iterator, a step, an entry.
-/
import Derived.Test.YtdgfbfkjdflabaaLWr
import Derived.Maps.RangeRun
import Derived.Test.YtdgfbfkjdflabaaLNetN
set_option linter.unusedSimpArgs false
set_option linter.unusedVariables false
set_option maxRecDepth 200000
set_option maxHeartbeats 4000000
namespace Go.Proofs.Ytdgfbfkjdflabaa
open Go.Ev
open Go.WideShapes Go.ChangeMaps
theorem next_reg {id : Nat} {ops : Array Oper} {oa ob : Oper} {ti tn tb : Nat} (hsz : ops.size = 2) (h0 : ops[0]? = some oa) (h1 : ops[1]? = some ob) (ga : oa.guard = none) (gb : ob.guard = none) (ea : oa.op = .next (.tmp ti) false) (da : oa.dst = some tn) (eb : ob.op = .extract (.tmp tn) 0) (db : ob.dst = some tb)
  {a : Act} {w : World} {r bm since c0 : Nat} {seen : Array Nat} {es : Array MapEntry} {clock : Nat} (hti : a.tmps.getD ti undef = .pointer (some ⟨r, 0, none⟩)) (hn : tn < a.tmps.size) (hr : w.heap[r]? = some (.mapIter (some bm) since seen c0)) (hb : w.heap[bm]? = some (.map es clock)) (hold : ∀ x ∈ es.toList, x.born < since) (hsc : since ≤ c0) {Q : Exit → Act → World → Prop}
  (hQ1 : (leftOf es seen).size = 0 → Q .normal ((a.put (some tn) (.tuple #[.bool false])).put (some tb) (.bool false)) w)
  (hQ2 : ∀ e ∈ (leftOf es seen).toList, ∀ w1 : World, (w1 = w ∨ w1 = w.drew) → Q .normal ((a.put (some tn) (.tuple #[.bool true, e.key, e.val])).put (some tb) (.bool true)) (setBlock w1 r (.mapIter (some bm) since (seen.push e.born) clock))) : (Code.region id ops false).wp Try.prog Q a w := by
 refine wp_region ?_
 rw [hsz]
 show wpOps Try.prog ops Q (0 :: [1]) a w
 rw [wpOps_cons]
 have e1 : ∀ (b : Act) (w : World) (t : Value) (vs : Array Value) (v : Value), b.tmps.getD tn undef = .tuple vs → vs[0]? = some v → (execOp b.eval ob).run Try.prog w = .ok (.value v) w := fun b w t vs v hb hv => by
  have hb' : b.eval (.tmp tn) = .tuple vs := hb
  simp [execOp, eb, hb', Instr.extract, hv]
 have hti' : a.eval (.tmp ti) = .pointer (some ⟨r, 0, none⟩) := hti
 rcases run_next_at (P := Try.prog) w oa.type r bm since c0 seen es clock hr hb hold hsc with ⟨hz, hrun⟩ | ⟨e, he, w1, hw1, hrun⟩
 ·refine op_step h0 ga (v := .tuple #[.bool false]) (w' := w) (by simp [execOp, ea, hti', hrun]) ?_
  rw [da, wpOps_cons]
  refine op_step h1 gb (e1 _ _ undef _ _ (put_same hn) rfl) ?_
  rw [db]
  exact hQ1 hz
 ·refine op_step h0 ga (v := .tuple #[.bool true, e.key, e.val]) (w' := setBlock w1 r (.mapIter (some bm) since (seen.push e.born) clock)) (by simp [execOp, ea, hti', hrun]) ?_
  rw [da, wpOps_cons]
  refine op_step h1 gb (e1 _ _ undef _ _ (put_same hn) rfl) ?_
  rw [db]
  exact hQ2 e he w1 hw1
theorem entry_part {ops : Array Oper} {oa ob oc : Oper} {ti ta tk tv : Nat} {rest : List Nat} (h0 : ops[0]? = some oa) (h1 : ops[1]? = some ob) (h2 : ops[2]? = some oc) (ga : oa.guard = none) (gb : ob.guard = none) (gc : oc.guard = none) (ea : oa.op = .entry (.tmp ti)) (da : oa.dst = some ta) (eb : ob.op = .extract (.tmp ta) 0) (db : ob.dst = some tk) (ec : oc.op = .extract (.tmp ta) 1) (dc : oc.dst = some tv) (hne : tk ≠ ta)
  {a : Act} {w : World} {r bm since : Nat} {seen : Array Nat} {es : Array MapEntry} {clock : Nat} {e : MapEntry} (hti : a.tmps.getD ti undef = .pointer (some ⟨r, 0, none⟩)) (hn : ta < a.tmps.size) (hr : w.heap[r]? = some (.mapIter (some bm) since (seen.push e.born) clock)) (hb : w.heap[bm]? = some (.map es clock)) (he : e ∈ es.toList) (hnd : (es.toList.map (·.born)).Nodup) {Q : Exit → Act → World → Prop}
  (hK : wpOps Try.prog ops Q rest (((a.put (some ta) (.tuple #[e.key, e.val])).put (some tk) e.key).put (some tv) e.val) w) : wpOps Try.prog ops Q (0 :: 1 :: 2 :: rest) a w := by
 have hti' : a.eval (.tmp ti) = .pointer (some ⟨r, 0, none⟩) := hti
 have hrun := run_entry_at (P := Try.prog) w r bm since seen es clock e hr hb he hnd
 rw [wpOps_cons]
 refine op_step h0 ga (v := .tuple #[e.key, e.val]) (w' := w) (by simp [execOp, ea, hti', hrun]) ?_
 rw [da, wpOps_cons]
 have t1 : (a.put (some ta) (.tuple #[e.key, e.val])).eval (.tmp ta) = .tuple #[e.key, e.val] := put_same hn
 refine op_step h1 gb (v := e.key) (w' := w) (by simp [execOp, eb, t1, Instr.extract]) ?_
 rw [db, wpOps_cons]
 have t2 : ((a.put (some ta) (.tuple #[e.key, e.val])).put (some tk) e.key).eval (.tmp ta) = .tuple #[e.key, e.val] := (put_other hne).trans t1
 refine op_step h2 gc (v := e.val) (w' := w) (by simp [execOp, ec, t2, Instr.extract]) ?_
 rw [dc]
 exact hK
theorem low_ok {x : Cx} {h : Heap} (hi : Inv G0 x h) {w' : World} (hz : x.w.heap.size ≤ w'.heap.size) (hb : ∀ b, b < x.w.heap.size → w'.heap[b]? = x.w.heap[b]?) (hos : w'.os = x.w.os) (htape : w'.tape = x.w.tape) (hout : w'.output = x.w.output) (hnf : ∀ N, NF N x.w → NF N w') :
  Inv G0 { x with w := w' } h ∧ Step (fun _ => True) x h { x with w := w' } h ∧ Ext x { x with w := w' } := by
 have hc : ∀ b o, x.S b o → w'.cell? ⟨b, o, none⟩ = x.w.cell? ⟨b, o, none⟩ := fun b o hS => by simp [World.cell?, hb b (hi.sh b o hS)]
 have he : Ext x { x with w := w' } := ⟨rfl, rfl, fun b o hS => ⟨hS, hc b o hS⟩⟩
 refine ⟨?_, ?_, he⟩
 ·exact {
   bgo := hi.bgo
   obj := fun id o hg => by
    by_cases hd : o = .dead
    ·subst hd; trivial
    ·exact (hi.obj id o hg).mono he (hb _ (block_lt hi hg hd)) rfl rfl (fun j _ => .same rfl rfl rfl) fun d hd2 => by
      subst hd2
      exact ⟨rfl, fun c hcc => hb c (hi.big id d hg c hcc).1, fun _ _ _ h => h⟩
   inj := hi.inj
   own := hi.own
   sh := fun b o hS => Nat.lt_of_lt_of_le (hi.sh b o hS) hz
   live := hi.live
   glob := fun g j c hg => by simp [G0] at hg
   big := fun id d hg b hbb => by
    obtain ⟨h1, h2, h3⟩ := hi.big id d hg b hbb
    exact ⟨Nat.lt_of_lt_of_le h1 hz, h2, h3⟩ }
 ·exact {
   ext := he
   size := hz
   evo := fun id _ hs => ⟨.same rfl rfl rfl, hs⟩
   frame := fun b hlt _ _ => hb b hlt
   sgrow := fun b o hs => .inl hs
   bfresh := fun id d b hg hbb => .inl ⟨id, d, hg, hbb⟩
   fresh := fun id ob hg hm => .inl ⟨id, ob, hg, hm, rfl⟩
   frow := fun id ob hg hm => .inl ⟨id, ob, hg, hm, fun h => h, rfl⟩
   os := hos
   tape := htape
   output := hout
   nf := hnf }
theorem relW {x : Cx} {st : St} {a : Act} (hs : RelS G0 x st a) {w' : World} (hi : Inv G0 { x with w := w' } st.h) (he : Ext x { x with w := w' }) (hz : x.w.heap.size ≤ w'.heap.size) : RelS G0 { x with w := w' } st a where
 inv := hi
 b0 := Nat.le_trans hs.b0 hz
 size := hs.size
 vals := fun i hl => (hs.vals i hl).mono he fun j _ => .same rfl rfl rfl
 live := hs.live
theorem iter_ok {x : Cx} {h : Heap} (hi : Inv G0 x h) (m s c : Nat) (seen : Array Nat) : Inv G0 { x with w := x.w.alloc (.mapIter (some m) s seen c) } h ∧ Step (fun _ => True) x h { x with w := x.w.alloc (.mapIter (some m) s seen c) } h ∧ Ext x { x with w := x.w.alloc (.mapIter (some m) s seen c) } ∧ Free x.w.heap.size { x with w := x.w.alloc (.mapIter (some m) s seen c) } h := by
 obtain ⟨h1, h2, h3⟩ := low_ok hi (w' := x.w.alloc (.mapIter (some m) s seen c)) (by rw [alloc_size]; omega) (fun b hb => by
  simp only [World.alloc]
  rw [Array.getElem?_push, if_neg (by omega)]) rfl rfl rfl fun N hn b o hN hc => by
   by_cases he : b < x.w.heap.size
   ·have : (x.w.alloc (.mapIter (some m) s seen c)).heap[b]? = x.w.heap[b]? := by
     simp only [World.alloc]
     rw [Array.getElem?_push, if_neg (by omega)]
    simp only [World.cell?, World.frozen?, this] at hc ⊢
    exact hn b o hN hc
   ·by_cases he2 : b = x.w.heap.size
    ·subst he2
     have hnew := alloc_new x.w (.mapIter (some m) s seen c)
     simp only [World.cell?, hnew] at hc
     cases hc
    ·have hge : (x.w.alloc (.mapIter (some m) s seen c)).heap.size ≤ b := by rw [alloc_size]; omega
     simp only [World.cell?, Array.getElem?_eq_none hge] at hc
     cases hc
 refine ⟨h1, h2, h3, ⟨by show _ < (x.w.alloc _).heap.size; rw [alloc_size]; omega, fun id o hg hd hp => ?_, fun o hs => ?_, fun id d hg hO => ?_⟩⟩
 ·have := block_lt hi hg hd
  have hp' : x.φ id = x.w.heap.size := hp
  omega
 ·have := hi.sh _ o hs
  omega
 ·have := (hi.big id d hg _ hO).1
  omega
theorem nf_iter {N : Nat} {w : World} {r m s c m' s' c' : Nat} {seen seen' : Array Nat} (hr : w.heap[r]? = some (.mapIter (some m) s seen c)) (hn : NF N w) : NF N (setBlock w r (.mapIter (some m') s' seen' c')) := fun k o hk hc => by
 by_cases he : k = r
 ·subst he
  simp [World.cell?, set_new hr] at hc
 ·simp only [World.cell?, World.frozen?, set_old w r _ he] at hc ⊢
  exact hn k o hk hc
theorem range_run {mt kt et : TypeId} {w : World} {b : Nat} {es : Array MapEntry} {clock : Nat} (hm : Try.prog.underlying mt = some (.map kt et)) (hb : w.heap[b]? = some (.map es clock)) : (Instr.range mt (.map (some b))).run Try.prog w = .ok (.pointer (some ⟨w.heap.size, 0, none⟩)) (w.alloc (.mapIter (some b) clock #[] clock)) := by
 simp [Instr.range, run_underlying hm, MapKept.run_getObj_map hb, run_newObj, Result.andThen]
end Go.Proofs.Ytdgfbfkjdflabaa
namespace Go.Proofs.Ytdgfbfkjdflabaa
open Go.Ev
noncomputable def bodyCl : Code := match Try.f13.body with
 | some c => c
 | none => .skip
theorem bodyCl_is : Try.f13.body = some bodyCl := by kernel_rfl
noncomputable def opsC (l : List Nat) : Array Oper := rOps (cAt bodyCl l)
noncomputable def oC (l : List Nat) (i : Nat) : Oper := (opsC l).toList.getD i default
theorem atC {l : List Nat} {i : Nat} (h : i < (opsC l).size) : (opsC l)[i]? = some (oC l i) := by simp [oC, h]
abbrev pC2 : List Nat := [1, 1, 0, 0]
theorem regC2 : cAt bodyCl pC2 = .region (rId (cAt bodyCl pC2)) (opsC pC2) false := by kernel_rfl
theorem sizeC2 : (opsC pC2).size = 5 := by kernel_rfl
theorem opC2_4 : (oC pC2 4).op = .range 56 (.tmp 12) := by kernel_rfl
theorem dstC2_4 : (oC pC2 4).dst = some 13 := by kernel_rfl
theorem gC2_4 : (oC pC2 4).guard = none := by kernel_rfl
abbrev pC3 : List Nat := [1, 1, 0, 1, 0, 0, 0]
theorem regC3 : cAt bodyCl pC3 = .region (rId (cAt bodyCl pC3)) (opsC pC3) false := by kernel_rfl
theorem sizeC3 : (opsC pC3).size = 2 := by kernel_rfl
theorem opC3_0 : (oC pC3 0).op = .next (.tmp 13) false := by kernel_rfl
theorem dstC3_0 : (oC pC3 0).dst = some 14 := by kernel_rfl
theorem gC3_0 : (oC pC3 0).guard = none := by kernel_rfl
theorem opC3_1 : (oC pC3 1).op = .extract (.tmp 14) 0 := by kernel_rfl
theorem dstC3_1 : (oC pC3 1).dst = some 15 := by kernel_rfl
theorem gC3_1 : (oC pC3 1).guard = none := by kernel_rfl
abbrev pC4 : List Nat := [1, 1, 0, 1, 0, 0, 1, 1, 0, 0]
theorem regC4 : cAt bodyCl pC4 = .region (rId (cAt bodyCl pC4)) (opsC pC4) false := by kernel_rfl
theorem sizeC4 : (opsC pC4).size = 6 := by kernel_rfl
theorem opC4_0 : (oC pC4 0).op = .entry (.tmp 13) := by kernel_rfl
theorem dstC4_0 : (oC pC4 0).dst = some 16 := by kernel_rfl
theorem gC4_0 : (oC pC4 0).guard = none := by kernel_rfl
theorem opC4_1 : (oC pC4 1).op = .extract (.tmp 16) 0 := by kernel_rfl
theorem dstC4_1 : (oC pC4 1).dst = some 17 := by kernel_rfl
theorem gC4_1 : (oC pC4 1).guard = none := by kernel_rfl
theorem opC4_2 : (oC pC4 2).op = .extract (.tmp 16) 1 := by kernel_rfl
theorem dstC4_2 : (oC pC4 2).dst = some 18 := by kernel_rfl
theorem gC4_2 : (oC pC4 2).guard = none := by kernel_rfl
abbrev pC6 : List Nat := [1, 1, 1, 0, 0]
theorem regC6 : cAt bodyCl pC6 = .region (rId (cAt bodyCl pC6)) (opsC pC6) false := by kernel_rfl
theorem sizeC6 : (opsC pC6).size = 5 := by kernel_rfl
theorem opC6_4 : (oC pC6 4).op = .range 57 (.tmp 29) := by kernel_rfl
theorem dstC6_4 : (oC pC6 4).dst = some 30 := by kernel_rfl
theorem gC6_4 : (oC pC6 4).guard = none := by kernel_rfl
abbrev pC7 : List Nat := [1, 1, 1, 0, 1, 0, 0, 0]
theorem regC7 : cAt bodyCl pC7 = .region (rId (cAt bodyCl pC7)) (opsC pC7) false := by kernel_rfl
theorem sizeC7 : (opsC pC7).size = 2 := by kernel_rfl
theorem opC7_0 : (oC pC7 0).op = .next (.tmp 30) false := by kernel_rfl
theorem dstC7_0 : (oC pC7 0).dst = some 31 := by kernel_rfl
theorem gC7_0 : (oC pC7 0).guard = none := by kernel_rfl
theorem opC7_1 : (oC pC7 1).op = .extract (.tmp 31) 0 := by kernel_rfl
theorem dstC7_1 : (oC pC7 1).dst = some 32 := by kernel_rfl
theorem gC7_1 : (oC pC7 1).guard = none := by kernel_rfl
abbrev pC8 : List Nat := [1, 1, 1, 0, 1, 0, 0, 1, 1, 0, 0]
theorem regC8 : cAt bodyCl pC8 = .region (rId (cAt bodyCl pC8)) (opsC pC8) false := by kernel_rfl
theorem sizeC8 : (opsC pC8).size = 6 := by kernel_rfl
theorem opC8_0 : (oC pC8 0).op = .entry (.tmp 30) := by kernel_rfl
theorem dstC8_0 : (oC pC8 0).dst = some 33 := by kernel_rfl
theorem gC8_0 : (oC pC8 0).guard = none := by kernel_rfl
theorem opC8_1 : (oC pC8 1).op = .extract (.tmp 33) 0 := by kernel_rfl
theorem dstC8_1 : (oC pC8 1).dst = some 34 := by kernel_rfl
theorem gC8_1 : (oC pC8 1).guard = none := by kernel_rfl
theorem opC8_2 : (oC pC8 2).op = .extract (.tmp 33) 1 := by kernel_rfl
theorem dstC8_2 : (oC pC8 2).dst = some 35 := by kernel_rfl
theorem gC8_2 : (oC pC8 2).guard = none := by kernel_rfl
theorem trC2 : trOprs Try.prog (opsC pC2) (((opsC pC2).toList.drop 0).take 4) cq2 = some cq2 := by kernel_rfl
theorem trC6 : trOprs Try.prog (opsC pC6) (((opsC pC6).toList.drop 0).take 4) cq6 = some cq6 := by kernel_rfl
theorem trC4 : trOprs Try.prog (opsC pC4) (((opsC pC4).toList.drop 3).take 3) cq4 = some cq4 := by kernel_rfl
theorem trC8 : trOprs Try.prog (opsC pC8) (((opsC pC8).toList.drop 3).take 3) cq8 = some cq8 := by kernel_rfl
theorem part_tr {P : Program} {ops : Array Oper} {b n : Nat} {qs : List Opr} (h : trOprs P ops ((ops.toList.drop b).take n) qs = some qs) : ∀ j, j < qs.length → ∃ o an, ops[b + j]? = some o ∧ trOpr P ops o an = some (opAt qs j) := fun j hj => by
 obtain ⟨hl, hat⟩ := trOprs_at h
 have hj' : j < ((ops.toList.drop b).take n).length := by rw [← hl]; exact hj
 obtain ⟨an, ha⟩ := hat j _ (List.getElem?_eq_getElem hj')
 refine ⟨_, an, ?_, ha⟩
 have h2 := List.getElem?_eq_getElem hj'
 rw [← h2, List.getElem?_take, List.getElem?_drop]
 rw [if_pos (by simp at hj'; omega)]
 simp
def ks43 (l : List Nat) : List Bool := (List.range 43).map fun i => l.contains i
end Go.Proofs.Ytdgfbfkjdflabaa
namespace Go.Proofs.Ytdgfbfkjdflabaa
open Go.Ev
open Go.WideShapes Go.ChangeMaps
abbrev noL : Nat → Option (List (List UInt8)) := fun _ => none
abbrev noF : Nat → Bool := fun _ => false
abbrev h0N (l0 : Nat → Option (List (List UInt8))) (f0 : Nat → Bool) : Heap := hN l0 f0 none none none
theorem b0C_inv {c : Code} (h : trIR Try.prog c iClone_b0 = some iClone_b0) : ∃ c3 kk sk c4 c5, c = .seq c3 (.seq (.cond kk sk (.exit 0)) (.block 1 (.seq c4 c5))) ∧ trO kk = .t 15 ∧ trIR Try.prog sk .skip = some .skip ∧ trIR Try.prog c5 (.reg [(3, 6), (4, 6)] cq5) = some (.reg [(3, 6), (4, 6)] cq5) := by
 obtain ⟨c3, ca, rfl, _, g1⟩ := trIR_seq h
 obtain ⟨cb, cc, rfl, g2, g3⟩ := trIR_seq g1
 obtain ⟨kk, sk, ex, rfl, hk, hs, he⟩ := trIR_cond g2
 obtain ⟨rfl, _⟩ := trIR_exit he
 obtain ⟨cd, rfl, _, g4⟩ := trIR_block g3
 obtain ⟨c4, c5, rfl, _, h5⟩ := trIR_seq g4
 exact ⟨c3, kk, sk, c4, c5, rfl, hk.symm, hs, h5⟩
theorem c5x_clean (v0 v13 : Value) (l0 : Nat → Option (List (List UInt8))) (f0 : Nat → Bool) (f t : Int) : clean 6 iClone_k0 (cGk v0 v13 l0 f0 f t) = cK v0 v13 l0 f0 := by
 have h := c5_ex v0 v13 l0 f0 f t
 rw [app_exit] at h
 have h2 : some (Ex.exit 1, clean 6 iClone_k0 (cGk v0 v13 l0 f0 f t)) = some (Ex.exit 1, cK v0 v13 l0 f0) := h
 injection h2 with h2
 injection h2
theorem reg_okP {c : Code} {ns : Nat} {pairs : List (Nat × Nat)} {qs : List Opr} {st st' : St} {x : Cx} {a : Act} {Q : Exit → Act → World → Prop} (htr : trIR Try.prog c (.reg pairs qs) = some (.reg pairs qs)) (hs : RelS G0 x st a) (he : app tab G0 ns [] (ex tab G0 ns (.reg pairs qs) st) = some (.normal, st'))
  (hQ : ∀ x' a', RelS G0 x' st' a' → Step (fun _ => True) x st.h x' st'.h → a'.defers = a.defers → Q .normal a' x'.w) : c.wp Try.prog Q a x.w := by
 obtain ⟨id, ops, draw, rfl, _, h⟩ := trIR_reg htr
 obtain ⟨n, h1, h2⟩ := reg_of he
 exact region_ok (evN_ok (G := G0) tabOk xok0 gf0 n) h hs h1 h2 hQ
structure SrcL (xs : Cx) (b7 : Nat) (es : Array MapEntry) (clock : Nat) (l : Nat → Option (List (List UInt8))) : Prop where
 hb : xs.w.heap[b7]? = some (.map es clock)
 key : ∀ e ∈ es.toList, ∃ f t, isLine f t = true ∧ e.key = lnKey f t ∧ (l (lnIx f t)).isSome ∧ Rep xs.w xs.S (.sl (eBs ((l (lnIx f t)).getD []))) e.val ∧ ∃ a n cap, e.val = .slice (some a) n cap
 all : ∀ f t, isLine f t = true → (l (lnIx f t)).isSome → ∃ e ∈ es.toList, e.key = lnKey f t
 one : es.toList.Pairwise fun a b => a.key ≠ b.key
 nd : (es.toList.map (·.born)).Nodup
 old : ∀ e ∈ es.toList, e.born < clock
 len : ∀ f t, isLine f t = true → ((l (lnIx f t)).getD []).length ≤ 1048576
 ph : ∀ id o, getO (h0N noL noF) id = some o → xs.φ id ≠ b7
 om : ∀ id d, getO (h0N noL noF) id = some (.big d) → ¬ xs.Ω id b7
theorem hN_some {l0 l1 : Nat → Option (List (List UInt8))} {f0 f1 : Nat → Bool} {id : Nat} {o : Ev.Obj} (h : getO (h0N l0 f0) id = some o) : (∃ o', getO (h0N l1 f1) id = some o') ∧ o ≠ .dead := by
 match id, h with
 | 0, h => simp [getO] at h; subst h; exact ⟨⟨_, rfl⟩, by simp⟩
 | 1, h => simp [getO] at h; subst h; exact ⟨⟨_, rfl⟩, by simp⟩
 | 2, h => simp [getO] at h; subst h; exact ⟨⟨_, rfl⟩, by simp⟩
 | 3, h => simp [getO] at h
 | 4, h => simp [getO] at h
 | 5, h => simp [getO] at h
 | k + 6, h => simp [getO] at h
theorem set_touch {w w1 : World} {r : Nat} {o : Go.Obj} (h : w1 = w ∨ w1 = w.drew) : (setBlock w1 r o).heap.size = w.heap.size ∧ (∀ b, b ≠ r → (setBlock w1 r o).heap[b]? = w.heap[b]?) ∧ (setBlock w1 r o).os = w.os ∧ (setBlock w1 r o).tape = w.tape ∧ (setBlock w1 r o).output = w.output := by
 rcases h with rfl | rfl
 ·exact ⟨set_size _ _ _, fun b hb => set_old _ _ _ hb, rfl, rfl, rfl⟩
 ·exact ⟨set_size _ _ _, fun b hb => set_old _ _ _ hb, rfl, rfl, rfl⟩
theorem nf_touch {N : Nat} {w w1 : World} {r m s c m' s' c' : Nat} {seen seen' : Array Nat} (h : w1 = w ∨ w1 = w.drew) (hr : w.heap[r]? = some (.mapIter (some m) s seen c)) (hn : NF N w) : NF N (setBlock w1 r (.mapIter (some m') s' seen' c')) := by
 rcases h with rfl | rfl
 ·exact nf_iter hr hn
 ·exact nf_iter (w := w.drew) hr (NF.heap rfl hn)
theorem pw_born {es : List MapEntry} (h : (es.map (·.born)).Nodup) {i j : Nat} {a b : MapEntry} (hi : es[i]? = some a) (hj : es[j]? = some b) (he : a.born = b.born) : i = j := by
 have h' : es.Pairwise fun a c => a.born ≠ c.born := List.pairwise_map.1 h
 obtain ⟨hi2, hi3⟩ := List.getElem?_eq_some_iff.1 hi
 obtain ⟨hj2, hj3⟩ := List.getElem?_eq_some_iff.1 hj
 rcases Nat.lt_trichotomy i j with hlt | rfl | hlt
 ·have := List.pairwise_iff_getElem.1 h' i j hi2 hj2 hlt
  rw [hi3, hj3] at this
  exact absurd he this
 ·rfl
 ·have := List.pairwise_iff_getElem.1 h' j i hj2 hi2 hlt
  rw [hi3, hj3] at this
  exact absurd he.symm this
theorem loopC1 {c : Code} {id3 id4 : Nat} (ht : trIR Try.prog c iClone_b0 = some iClone_b0) (h3 : cAt c [0] = .region id3 (opsC pC3) false) (h4 : cAt c [1, 1, 0, 0] = .region id4 (opsC pC4) false) {xs x0 : Cx} {b7 r : Nat} {es : Array MapEntry} {clock : Nat} {l : Nat → Option (List (List UInt8))} (src : SrcL xs b7 es clock l)
  (hrs : xs.w.heap.size ≤ r) {a : Act} {v0 : Value} (hs : RelS G0 x0 (cK v0 (.pointer (some ⟨r, 0, none⟩)) noL noF) a) (st0 : SStep 6 xs (h0N noL noF) x0 (h0N noL noF)) (fr0 : Free r x0 (h0N noL noF)) (hr0 : x0.w.heap[r]? = some (.mapIter (some b7) clock #[] clock))
  {Q : Exit → Act → World → Prop} (hQ : ∀ x' a' l', RelS G0 x' (cK v0 (.pointer (some ⟨r, 0, none⟩)) l' noF) a' → SStep 6 xs (h0N noL noF) x' (h0N l' noF) → a'.defers = a.defers → (∀ f t, isLine f t = true → l' (lnIx f t) = l (lnIx f t)) → Q (.exit 0) a' x'.w) : (Code.loop c).wp Try.prog Q a x0.w := by
 obtain ⟨c3, kk, sk, c4, c5, rfl, hkk, hsk, h5⟩ := b0C_inv ht
 simp only [cAt, if_true, if_false, Nat.one_ne_zero] at h3 h4
 subst h3 h4
 refine wp_loop_ghost (fun N a' w' => ∃ x' l' seen, x'.w = w' ∧ RelS G0 x' (cK v0 (.pointer (some ⟨r, 0, none⟩)) l' noF) a' ∧ SStep 6 xs (h0N noL noF) x' (h0N l' noF) ∧ a'.defers = a.defers ∧ Free r x' (h0N l' noF) ∧ x'.w.heap[r]? = some (.mapIter (some b7) clock seen clock) ∧ (leftOf es seen).size = N ∧
   ∀ f t, isLine f t = true → ((∃ e ∈ es.toList, e.key = lnKey f t ∧ seen.contains e.born = true) → l' (lnIx f t) = l (lnIx f t)) ∧ ((∀ e ∈ es.toList, e.key = lnKey f t → seen.contains e.born = false) → l' (lnIx f t) = none)) (leftOf es #[]).size
  ⟨x0, noL, #[], rfl, hs, st0, rfl, fr0, hr0, rfl, fun f t _ => ⟨fun ⟨e, _, _, h⟩ => by simp at h, fun _ => rfl⟩⟩ ?_
 rintro N a1 w1 ⟨x1, l1, seen, rfl, hs1, st1, d1, fr1, hr1, hN, hl1⟩
 have hb1 : x1.w.heap[b7]? = some (.map es clock) := by
  rw [st1.frame b7 (Array.getElem?_eq_some_iff.1 src.hb).1 (fun id o hg _ => src.ph id o hg) src.om]
  exact src.hb
 have hti : a1.tmps.getD 13 undef = .pointer (some ⟨r, 0, none⟩) := (hs1.val 13).s_inv
 have hz1 : a1.tmps.size = 43 := hs1.size
 have stp : ∀ (u v : Value), RelS G0 x1 (cK v0 (.pointer (some ⟨r, 0, none⟩)) l1 noF) ((a1.put (some 14) u).put (some 15) v) := fun u v => by
  refine rel_act hs1 (by rw [put_size, put_size]) fun i => ?_
  by_cases h14 : i = 14
  ·subst h14; exact .inl rfl
  ·by_cases h15 : i = 15
   ·subst h15; exact .inl rfl
   ·exact .inr ((put_other (Ne.symm h15)).trans (put_other (Ne.symm h14)))
 have ekk : ∀ (b : Act) (v : Value), 15 < b.tmps.size → (b.put (some 15) v).eval kk = v := fun b v hb => by
  have : ∀ k : Operand, trO k = .t 15 → k = .tmp 15 := fun k hk => by
   cases k <;> simp [trO] at hk
   rw [hk]
  rw [this kk hkk]
  exact put_same hb
 refine wp_seq ?_
 refine next_reg sizeC3 (atC (by rw [sizeC3]; decide)) (atC (by rw [sizeC3]; decide)) gC3_0 gC3_1 opC3_0 dstC3_0 opC3_1 dstC3_1 hti (by omega) hr1 hb1 src.old (Nat.le_refl _) (fun hz => ?_) fun e he w2 hw2 => ?_
 ·-- nothing is left
  refine wp_seq ?_
  refine wp_cond_false (ekk _ _ (by rw [put_size]; omega)) (wp_exit ?_)
  refine hQ x1 _ l1 (stp _ _) st1 d1 fun f t hft => ?_
  have hall := all_seen es seen hz
  by_cases hx : ∃ e ∈ es.toList, e.key = lnKey f t
  ·obtain ⟨e, he, hk⟩ := hx
   exact (hl1 f t hft).1 ⟨e, he, hk, hall e he⟩
  ·have h1 : l1 (lnIx f t) = none := (hl1 f t hft).2 fun e he hk => absurd ⟨e, he, hk⟩ hx
   have h2 : l (lnIx f t) = none := by
    cases hll : l (lnIx f t) with
    | none => rfl
    | some z => exact absurd (src.all f t hft (by rw [hll]; rfl)) hx
   rw [h1, h2]
 ·-- an entry comes
  obtain ⟨hem, hes⟩ := mem_left he
  have hshr := left_shrinks es seen e he
  obtain ⟨f, t, hft, hkey, hsome, hrep, ae, ne, ce, hval⟩ := src.key e hem
  obtain ⟨z1, z2, z3, z4, z5⟩ := set_touch (r := r) (o := .mapIter (some b7) clock (seen.push e.born) clock) hw2
  obtain ⟨i2, st2, fr2, ext2⟩ := touch st1 hs1.inv fr1 hrs z1 z2 z3 z4 z5 fun N hn => nf_touch hw2 hr1 hn
  have hs2 := relW (stp (.tuple #[.bool true, e.key, e.val]) (.bool true)) i2 ext2 (Nat.le_of_eq z1.symm)
  have hr2 : (setBlock w2 r (.mapIter (some b7) clock (seen.push e.born) clock)).heap[r]? = some (.mapIter (some b7) clock (seen.push e.born) clock) := by
   rcases hw2 with rfl | rfl
   ·exact set_new hr1
   ·exact set_new (w := x1.w.drew) hr1
  generalize setBlock w2 r (.mapIter (some b7) clock (seen.push e.born) clock) = w3 at *
  have hb7r : b7 ≠ r := by
   have := (Array.getElem?_eq_some_iff.1 src.hb).1
   omega
  have hb2 : w3.heap[b7]? = some (.map es clock) := (z2 b7 hb7r).trans hb1
  refine wp_seq ?_
  refine wp_cond_true (ekk _ _ (by rw [put_size]; omega)) ?_
  refine seg_ok (tab := tab) (x := { x1 with w := w3 }) (ns := 6) (e := .normal) (st' := cK v0 (.pointer (some ⟨r, 0, none⟩)) l1 noF) tabOk xok0 gf0 hsk hs2 rfl fun x3 a3 hs3 st3 d3 => ?_
  obtain ⟨fr3, er3⟩ := fr2.step st3
  have hr3 : x3.w.heap[r]? = some (.mapIter (some b7) clock (seen.push e.born) clock) := er3.trans hr2
  have st3' : SStep 6 xs (h0N noL noF) x3 (h0N l1 noF) := st2.trans st3
  have hb3 : x3.w.heap[b7]? = some (.map es clock) := by
   rw [st3'.frame b7 (Array.getElem?_eq_some_iff.1 src.hb).1 (fun id o hg _ => src.ph id o hg) src.om]
   exact src.hb
  have hti3 : a3.tmps.getD 13 undef = .pointer (some ⟨r, 0, none⟩) := (hs3.val 13).s_inv
  have hz3 : a3.tmps.size = 43 := hs3.size
  refine wp_block (wp_seq ?_)
  refine wp_region ?_
  rw [sizeC4]
  show wpOps Try.prog (opsC pC4) _ (0 :: 1 :: 2 :: (List.range' 3 cq4.length ++ [])) a3 x3.w
  refine entry_part (atC (by rw [sizeC4]; decide)) (atC (by rw [sizeC4]; decide)) (atC (by rw [sizeC4]; decide)) gC4_0 gC4_1 gC4_2 opC4_0 dstC4_0 opC4_1 dstC4_1 opC4_2 dstC4_2 (by decide) hti3 (by omega) hr3 hb3 hem src.nd ?_
  generalize hms : (l (lnIx f t)).getD [] = ms at *
  have hlk : l (lnIx f t) = some ms := by
   cases hll : l (lnIx f t) with
   | none => rw [hll] at hsome; cases hsome
   | some z => rw [hll] at hms; rw [← hms]; rfl
  have hrep3 : Rep x3.w (x3.sh true) (.sl (eBs ms)) e.val := hrep.mono fun b o hb => ⟨⟨(st3'.ext.cells b o hb).1, .inl rfl⟩, (st3'.ext.cells b o hb).2⟩
  have hlen : ms.length ≤ 1048576 := by have := src.len f t hft; rwa [hms] at this
  have hX : ∃ X, ((X = .sl true (eBs ms) ∧ ms ≠ []) ∨ (X = .esl ∧ ms = [])) ∧ RelV x3 (h0N l1 noF) X e.val := by
   by_cases hme : ms = []
   ·subst hme
    refine ⟨.esl, .inr ⟨rfl, rfl⟩, ?_⟩
    rw [hval] at hrep3 ⊢
    generalize hz : C.sl (eBs []) = z at hrep3
    cases hrep3 with
    | sc _ _ => cases hz
    | nil base cap h0 => exact .esl ae ce
    | sl q sz b o cap vals hne _ _ _ _ =>
     injection hz with hz
     exact absurd hz.symm hne
   ·exact ⟨_, .inl ⟨rfl, hme⟩, .sl true _ _ hrep3⟩
  obtain ⟨X, hX, hXr⟩ := hX
  have hXrefs : X.refs = [] := by rcases hX with ⟨rfl, _⟩ | ⟨rfl, _⟩ <;> rfl
  have hs4 : RelS G0 x3 (cE v0 (.pointer (some ⟨r, 0, none⟩)) l1 noF f t X) (((a3.put (some 16) (.tuple #[e.key, e.val])).put (some 17) e.key).put (some 18) e.val) := by
   have k1 : RelS G0 x3 (cK v0 (.pointer (some ⟨r, 0, none⟩)) l1 noF) (a3.put (some 16) (.tuple #[e.key, e.val])) := rel_act hs3 put_size fun i => by
    by_cases h16 : i = 16
    ·subst h16; exact .inl rfl
    ·exact .inr (put_other (Ne.symm h16))
   have k2 := relS_setD k1 (some 17) (v := .agg [i64 f, i64 t]) (u := e.key) (by
    rw [hkey]
    refine .agg _ [.int .i64 f, .int .i64 t] rfl fun i b v hb hv => ?_
    match i, hb, hv with
    | 0, hb, hv => simp at hb hv; subst hb hv; exact .s _
    | 1, hb, hv => simp at hb hv; subst hb hv; exact .s _
    | k + 2, hb, hv => simp at hb) (fun id hid => by simp [AV.refs, refsL] at hid)
   exact relS_setD k2 (some 18) (v := X) (u := e.val) hXr (fun id hid => by rw [hXrefs] at hid; cases hid)
  obtain ⟨nn, hev⟩ := ops_of (c4_ev v0 (.pointer (some ⟨r, 0, none⟩)) l1 noF f t X (hX.elim (fun h => .inl ⟨ms, h.1⟩) fun h => .inr h.1))
  refine part_ok (evN_ok (G := G0) tabOk xok0 gf0 nn) cq4 3 (part_tr trC4) hs4 hev fun x5 a5 hs5 st5 d5 => ?_
  have hs5' : RelS G0 x5 (cFk v0 (.pointer (some ⟨r, 0, none⟩)) l1 noF f t X) a5 := keep_rel hs5 (ks43 [0, 3, 13, 4, 5])
  have fin5 : ∀ {QQ : Exit → Act → World → Prop} (n : Nat), app tab G0 6 [] (ex tab G0 6 (.reg [(3, 6), (4, 6)] cq5) (cFk v0 (.pointer (some ⟨r, 0, none⟩)) l1 noF f t X)) = some (.normal, cG v0 (.pointer (some ⟨r, 0, none⟩)) (upd1 l1 (lnIx f t) (some ms)) noF f t X n) → (∀ x9 a9, (∃ N', N' < N ∧ ∃ x' l' seen, x'.w = Cx.w x9 ∧ RelS G0 x' (cK v0 (.pointer (some ⟨r, 0, none⟩)) l' noF) a9 ∧ SStep 6 xs (h0N noL noF) x' (h0N l' noF) ∧ a9.defers = a.defers ∧ Free r x' (h0N l' noF) ∧ x'.w.heap[r]? = some (.mapIter (some b7) clock seen clock) ∧ (leftOf es seen).size = N' ∧
   ∀ f t, isLine f t = true → ((∃ e ∈ es.toList, e.key = lnKey f t ∧ seen.contains e.born = true) → l' (lnIx f t) = l (lnIx f t)) ∧ ((∀ e ∈ es.toList, e.key = lnKey f t → seen.contains e.born = false) → l' (lnIx f t) = none)) → QQ .normal a9 (Cx.w x9)) → c5.wp Try.prog QQ a5 x5.w := fun {QQ} n hev5 hQQ => by
   refine reg_okP h5 hs5' hev5 fun x6 a6 hs6 st6 d6 => ?_
   have hs6' : RelS G0 x6 (cGk v0 (.pointer (some ⟨r, 0, none⟩)) (upd1 l1 (lnIx f t) (some ms)) noF f t) a6 := keep_rel hs6 (ks43 [0, 3, 13])
   obtain ⟨hs7, st7⟩ := clean_ok hs6' 6 iClone_k0
   rw [c5x_clean] at hs7 st7
   have stx := ((toS (ns := 6) st5).trans (toS st6)).trans st7
   obtain ⟨fr7, er7⟩ := fr3.step stx
   refine hQQ x6 a6 ⟨(leftOf es (seen.push e.born)).size, by omega, x6, upd1 l1 (lnIx f t) (some ms), seen.push e.born, rfl, hs7, st3'.trans stx, ?_, fr7, er7.trans hr3, rfl, fun f' t' hft' => ?_⟩
   ·exact d6.trans (d5.trans (d3.trans d1))
   ·by_cases hk : lnKey f' t' = lnKey f t
    ·obtain ⟨rfl, rfl⟩ := lnKey_inj hk
     refine ⟨fun _ => ?_, fun h => ?_⟩
     ·rw [hlk]; exact if_pos rfl
     ·have := h e hem hkey
      simp at this
    ·have hne : lnIx f' t' ≠ lnIx f t := fun h => hk (by obtain ⟨rfl, rfl⟩ := lnIx_inj hft' hft h; rfl)
     have hu : upd1 l1 (lnIx f t) (some ms) (lnIx f' t') = l1 (lnIx f' t') := if_neg hne
     have hborn : ∀ e' ∈ es.toList, e'.key = lnKey f' t' → (seen.push e.born).contains e'.born = seen.contains e'.born := fun e' he' hk' => by
      have : e'.born ≠ e.born := fun hbb => by
       obtain ⟨i, hi⟩ := List.getElem?_of_mem he'
       obtain ⟨j, hj⟩ := List.getElem?_of_mem hem
       have hij := pw_born src.nd hi hj hbb
       subst hij
       rw [hi] at hj
       injection hj with hj
       subst hj
       exact hk (hk'.symm.trans hkey)
      simp [this]
     rw [hu]
     refine ⟨fun ⟨e', he', hk', hs'⟩ => (hl1 f' t' hft').1 ⟨e', he', hk', by rw [hborn e' he' hk'] at hs'; exact hs'⟩, fun h => (hl1 f' t' hft').2 fun e' he' hk' => by rw [← hborn e' he' hk']; exact h e' he' hk'⟩
  rcases hX with ⟨rfl, hme⟩ | ⟨rfl, hme⟩
  ·exact fin5 ms.length (c5_ev v0 _ l1 noF f t ms hme hlen hft) fun x9 a9 h => h
  ·subst hme
   exact fin5 0 (c5e_ev v0 _ l1 noF f t hft) fun x9 a9 h => h
end Go.Proofs.Ytdgfbfkjdflabaa
namespace Go.Proofs.Ytdgfbfkjdflabaa
open Go.Ev
open Go.WideShapes Go.ChangeMaps
theorem b1C_inv {c : Code} (h : trIR Try.prog c iClone_b1 = some iClone_b1) : ∃ c3 kk sk c4 c5, c = .seq c3 (.seq (.cond kk sk (.exit 2)) (.block 3 (.seq c4 c5))) ∧ trO kk = .t 32 ∧ trIR Try.prog sk .skip = some .skip ∧ trIR Try.prog c5 (.reg [] cq9) = some (.reg [] cq9) := by
 obtain ⟨c3, ca, rfl, _, g1⟩ := trIR_seq h
 obtain ⟨cb, cc, rfl, g2, g3⟩ := trIR_seq g1
 obtain ⟨kk, sk, ex, rfl, hk, hs, he⟩ := trIR_cond g2
 obtain ⟨rfl, _⟩ := trIR_exit he
 obtain ⟨cd, rfl, _, g4⟩ := trIR_block g3
 obtain ⟨c4, c5, rfl, _, h5⟩ := trIR_seq g4
 exact ⟨c3, kk, sk, c4, c5, rfl, hk.symm, hs, h5⟩
theorem c9x_clean (v30 : Value) (l0 : Nat → Option (List (List UInt8))) (f0 : Nat → Bool) (f t : Int) : clean 6 iClone_k1 (dGk v30 l0 f0 f t) = dK v30 l0 f0 := by
 have h := c9_ex v30 l0 f0 f t
 rw [app_exit] at h
 have h2 : some (Ex.exit 3, clean 6 iClone_k1 (dGk v30 l0 f0 f t)) = some (Ex.exit 3, dK v30 l0 f0) := h
 injection h2 with h2
 injection h2
structure SrcF (xs : Cx) (b7 : Nat) (es : Array MapEntry) (clock : Nat) (l0 : Nat → Option (List (List UInt8))) (g : Nat → Bool) : Prop where
 hb : xs.w.heap[b7]? = some (.map es clock)
 key : ∀ e ∈ es.toList, ∃ f t, isLine f t = true ∧ e.key = lnKey f t ∧ e.val = .bool (g (lnIx f t))
 all : ∀ f t, isLine f t = true → g (lnIx f t) = true → ∃ e ∈ es.toList, e.key = lnKey f t
 one : es.toList.Pairwise fun a b => a.key ≠ b.key
 nd : (es.toList.map (·.born)).Nodup
 old : ∀ e ∈ es.toList, e.born < clock
 ph : ∀ id o, getO (h0N l0 noF) id = some o → xs.φ id ≠ b7
 om : ∀ id d, getO (h0N l0 noF) id = some (.big d) → ¬ xs.Ω id b7
theorem loopC2 {c : Code} {id3 id4 : Nat} (ht : trIR Try.prog c iClone_b1 = some iClone_b1) (h3 : cAt c [0] = .region id3 (opsC pC7) false) (h4 : cAt c [1, 1, 0, 0] = .region id4 (opsC pC8) false) {xs x0 : Cx} {b7 r : Nat} {es : Array MapEntry} {clock : Nat} {l0 : Nat → Option (List (List UInt8))} {g : Nat → Bool} (src : SrcF xs b7 es clock l0 g)
  (hrs : xs.w.heap.size ≤ r) {a : Act} (hs : RelS G0 x0 (dK (.pointer (some ⟨r, 0, none⟩)) l0 noF) a) (st0 : SStep 6 xs (h0N l0 noF) x0 (h0N l0 noF)) (fr0 : Free r x0 (h0N l0 noF)) (hr0 : x0.w.heap[r]? = some (.mapIter (some b7) clock #[] clock))
  {Q : Exit → Act → World → Prop} (hQ : ∀ x' a' l', RelS G0 x' (dK (.pointer (some ⟨r, 0, none⟩)) l0 l') a' → SStep 6 xs (h0N l0 noF) x' (h0N l0 l') → a'.defers = a.defers → (∀ f t, isLine f t = true → l' (lnIx f t) = g (lnIx f t)) → Q (.exit 2) a' x'.w) : (Code.loop c).wp Try.prog Q a x0.w := by
 obtain ⟨c3, kk, sk, c4, c5, rfl, hkk, hsk, h5⟩ := b1C_inv ht
 simp only [cAt, if_true, if_false, Nat.one_ne_zero] at h3 h4
 subst h3 h4
 refine wp_loop_ghost (fun N a' w' => ∃ x' l' seen, x'.w = w' ∧ RelS G0 x' (dK (.pointer (some ⟨r, 0, none⟩)) l0 l') a' ∧ SStep 6 xs (h0N l0 noF) x' (h0N l0 l') ∧ a'.defers = a.defers ∧ Free r x' (h0N l0 l') ∧ x'.w.heap[r]? = some (.mapIter (some b7) clock seen clock) ∧ (leftOf es seen).size = N ∧
   ∀ f t, isLine f t = true → ((∃ e ∈ es.toList, e.key = lnKey f t ∧ seen.contains e.born = true) → l' (lnIx f t) = g (lnIx f t)) ∧ ((∀ e ∈ es.toList, e.key = lnKey f t → seen.contains e.born = false) → l' (lnIx f t) = false)) (leftOf es #[]).size
  ⟨x0, noF, #[], rfl, hs, st0, rfl, fr0, hr0, rfl, fun f t _ => ⟨fun ⟨e, _, _, h⟩ => by simp at h, fun _ => rfl⟩⟩ ?_
 rintro N a1 w1 ⟨x1, l1, seen, rfl, hs1, st1, d1, fr1, hr1, hN, hl1⟩
 have hb1 : x1.w.heap[b7]? = some (.map es clock) := by
  rw [st1.frame b7 (Array.getElem?_eq_some_iff.1 src.hb).1 (fun id o hg _ => src.ph id o hg) src.om]
  exact src.hb
 have hti : a1.tmps.getD 30 undef = .pointer (some ⟨r, 0, none⟩) := (hs1.val 30).s_inv
 have hz1 : a1.tmps.size = 43 := hs1.size
 have stp : ∀ (u v : Value), RelS G0 x1 (dK (.pointer (some ⟨r, 0, none⟩)) l0 l1) ((a1.put (some 31) u).put (some 32) v) := fun u v => by
  refine rel_act hs1 (by rw [put_size, put_size]) fun i => ?_
  by_cases h31 : i = 31
  ·subst h31; exact .inl rfl
  ·by_cases h32 : i = 32
   ·subst h32; exact .inl rfl
   ·exact .inr ((put_other (Ne.symm h32)).trans (put_other (Ne.symm h31)))
 have ekk : ∀ (b : Act) (v : Value), 32 < b.tmps.size → (b.put (some 32) v).eval kk = v := fun b v hb => by
  have : ∀ k : Operand, trO k = .t 32 → k = .tmp 32 := fun k hk => by
   cases k <;> simp [trO] at hk
   rw [hk]
  rw [this kk hkk]
  exact put_same hb
 refine wp_seq ?_
 refine next_reg sizeC7 (atC (by rw [sizeC7]; decide)) (atC (by rw [sizeC7]; decide)) gC7_0 gC7_1 opC7_0 dstC7_0 opC7_1 dstC7_1 hti (by omega) hr1 hb1 src.old (Nat.le_refl _) (fun hz => ?_) fun e he w2 hw2 => ?_
 ·-- nothing is left
  refine wp_seq ?_
  refine wp_cond_false (ekk _ _ (by rw [put_size]; omega)) (wp_exit ?_)
  refine hQ x1 _ l1 (stp _ _) st1 d1 fun f t hft => ?_
  have hall := all_seen es seen hz
  by_cases hx : ∃ e ∈ es.toList, e.key = lnKey f t
  ·obtain ⟨e, he, hk⟩ := hx
   exact (hl1 f t hft).1 ⟨e, he, hk, hall e he⟩
  ·have h1 : l1 (lnIx f t) = false := (hl1 f t hft).2 fun e he hk => absurd ⟨e, he, hk⟩ hx
   have h2 : g (lnIx f t) = false := by
    cases hll : g (lnIx f t) with
    | false => rfl
    | true => exact absurd (src.all f t hft hll) hx
   rw [h1, h2]
 ·-- an entry comes
  obtain ⟨hem, hes⟩ := mem_left he
  have hshr := left_shrinks es seen e he
  obtain ⟨f, t, hft, hkey, hval⟩ := src.key e hem
  obtain ⟨z1, z2, z3, z4, z5⟩ := set_touch (r := r) (o := .mapIter (some b7) clock (seen.push e.born) clock) hw2
  obtain ⟨i2, st2, fr2, ext2⟩ := touch st1 hs1.inv fr1 hrs z1 z2 z3 z4 z5 fun N hn => nf_touch hw2 hr1 hn
  have hs2 := relW (stp (.tuple #[.bool true, e.key, e.val]) (.bool true)) i2 ext2 (Nat.le_of_eq z1.symm)
  have hr2 : (setBlock w2 r (.mapIter (some b7) clock (seen.push e.born) clock)).heap[r]? = some (.mapIter (some b7) clock (seen.push e.born) clock) := by
   rcases hw2 with rfl | rfl
   ·exact set_new hr1
   ·exact set_new (w := x1.w.drew) hr1
  generalize setBlock w2 r (.mapIter (some b7) clock (seen.push e.born) clock) = w3 at *
  have hb7r : b7 ≠ r := by
   have := (Array.getElem?_eq_some_iff.1 src.hb).1
   omega
  have hb2 : w3.heap[b7]? = some (.map es clock) := (z2 b7 hb7r).trans hb1
  refine wp_seq ?_
  refine wp_cond_true (ekk _ _ (by rw [put_size]; omega)) ?_
  refine seg_ok (tab := tab) (x := { x1 with w := w3 }) (ns := 6) (e := .normal) (st' := dK (.pointer (some ⟨r, 0, none⟩)) l0 l1) tabOk xok0 gf0 hsk hs2 rfl fun x3 a3 hs3 st3 d3 => ?_
  obtain ⟨fr3, er3⟩ := fr2.step st3
  have hr3 : x3.w.heap[r]? = some (.mapIter (some b7) clock (seen.push e.born) clock) := er3.trans hr2
  have st3' : SStep 6 xs (h0N l0 noF) x3 (h0N l0 l1) := st2.trans st3
  have hb3 : x3.w.heap[b7]? = some (.map es clock) := by
   rw [st3'.frame b7 (Array.getElem?_eq_some_iff.1 src.hb).1 (fun id o hg _ => src.ph id o hg) src.om]
   exact src.hb
  have hti3 : a3.tmps.getD 30 undef = .pointer (some ⟨r, 0, none⟩) := (hs3.val 30).s_inv
  have hz3 : a3.tmps.size = 43 := hs3.size
  refine wp_block (wp_seq ?_)
  refine wp_region ?_
  rw [sizeC8]
  show wpOps Try.prog (opsC pC8) _ (0 :: 1 :: 2 :: (List.range' 3 cq8.length ++ [])) a3 x3.w
  refine entry_part (atC (by rw [sizeC8]; decide)) (atC (by rw [sizeC8]; decide)) (atC (by rw [sizeC8]; decide)) gC8_0 gC8_1 gC8_2 opC8_0 dstC8_0 opC8_1 dstC8_1 opC8_2 dstC8_2 (by decide) hti3 (by omega) hr3 hb3 hem src.nd ?_
  generalize hbv : g (lnIx f t) = bv at *
  have hs4 : RelS G0 x3 (dE (.pointer (some ⟨r, 0, none⟩)) l0 l1 f t bv) (((a3.put (some 33) (.tuple #[e.key, e.val])).put (some 34) e.key).put (some 35) e.val) := by
   have k1 : RelS G0 x3 (dK (.pointer (some ⟨r, 0, none⟩)) l0 l1) (a3.put (some 33) (.tuple #[e.key, e.val])) := rel_act hs3 put_size fun i => by
    by_cases h33 : i = 33
    ·subst h33; exact .inl rfl
    ·exact .inr (put_other (Ne.symm h33))
   have k2 := relS_setD k1 (some 34) (v := .agg [i64 f, i64 t]) (u := e.key) (by
    rw [hkey]
    refine .agg _ [.int .i64 f, .int .i64 t] rfl fun i b v hb hv => ?_
    match i, hb, hv with
    | 0, hb, hv => simp at hb hv; subst hb hv; exact .s _
    | 1, hb, hv => simp at hb hv; subst hb hv; exact .s _
    | k + 2, hb, hv => simp at hb) (fun id hid => by simp [AV.refs, refsL] at hid)
   exact relS_setD k2 (some 35) (v := bo bv) (u := e.val) (by rw [hval]; exact .s _) (fun id hid => by simp [AV.refs] at hid)
  obtain ⟨nn, hev⟩ := ops_of (c8_ev (.pointer (some ⟨r, 0, none⟩)) l0 l1 f t bv)
  refine part_ok (evN_ok (G := G0) tabOk xok0 gf0 nn) cq8 3 (part_tr trC8) hs4 hev fun x5 a5 hs5 st5 d5 => ?_
  have hs5' : RelS G0 x5 (dFk (.pointer (some ⟨r, 0, none⟩)) l0 l1 f t bv) a5 := keep_rel hs5 (ks43 [3, 30, 6, 7])
  have fin5 : ∀ {QQ : Exit → Act → World → Prop} (_ : Nat), app tab G0 6 [] (ex tab G0 6 (.reg [] cq9) (dFk (.pointer (some ⟨r, 0, none⟩)) l0 l1 f t bv)) = some (.normal, dG (.pointer (some ⟨r, 0, none⟩)) l0 (upd1 l1 (lnIx f t) bv) f t bv) → (∀ x9 a9, (∃ N', N' < N ∧ ∃ x' l' seen, x'.w = Cx.w x9 ∧ RelS G0 x' (dK (.pointer (some ⟨r, 0, none⟩)) l0 l') a9 ∧ SStep 6 xs (h0N l0 noF) x' (h0N l0 l') ∧ a9.defers = a.defers ∧ Free r x' (h0N l0 l') ∧ x'.w.heap[r]? = some (.mapIter (some b7) clock seen clock) ∧ (leftOf es seen).size = N' ∧
   ∀ f t, isLine f t = true → ((∃ e ∈ es.toList, e.key = lnKey f t ∧ seen.contains e.born = true) → l' (lnIx f t) = g (lnIx f t)) ∧ ((∀ e ∈ es.toList, e.key = lnKey f t → seen.contains e.born = false) → l' (lnIx f t) = false)) → QQ .normal a9 (Cx.w x9)) → c5.wp Try.prog QQ a5 x5.w := fun {QQ} _ hev5 hQQ => by
   refine reg_okP h5 hs5' hev5 fun x6 a6 hs6 st6 d6 => ?_
   have hs6' : RelS G0 x6 (dGk (.pointer (some ⟨r, 0, none⟩)) l0 (upd1 l1 (lnIx f t) bv) f t) a6 := keep_rel hs6 (ks43 [3, 30])
   obtain ⟨hs7, st7⟩ := clean_ok hs6' 6 iClone_k1
   rw [c9x_clean] at hs7 st7
   have stx := ((toS (ns := 6) st5).trans (toS st6)).trans st7
   obtain ⟨fr7, er7⟩ := fr3.step stx
   refine hQQ x6 a6 ⟨(leftOf es (seen.push e.born)).size, by omega, x6, upd1 l1 (lnIx f t) bv, seen.push e.born, rfl, hs7, st3'.trans stx, ?_, fr7, er7.trans hr3, rfl, fun f' t' hft' => ?_⟩
   ·exact d6.trans (d5.trans (d3.trans d1))
   ·by_cases hk : lnKey f' t' = lnKey f t
    ·obtain ⟨rfl, rfl⟩ := lnKey_inj hk
     refine ⟨fun _ => ?_, fun h => ?_⟩
     ·rw [hbv]; exact if_pos rfl
     ·have := h e hem hkey
      simp at this
    ·have hne : lnIx f' t' ≠ lnIx f t := fun h => hk (by obtain ⟨rfl, rfl⟩ := lnIx_inj hft' hft h; rfl)
     have hu : upd1 l1 (lnIx f t) bv (lnIx f' t') = l1 (lnIx f' t') := if_neg hne
     have hborn : ∀ e' ∈ es.toList, e'.key = lnKey f' t' → (seen.push e.born).contains e'.born = seen.contains e'.born := fun e' he' hk' => by
      have : e'.born ≠ e.born := fun hbb => by
       obtain ⟨i, hi⟩ := List.getElem?_of_mem he'
       obtain ⟨j, hj⟩ := List.getElem?_of_mem hem
       have hij := pw_born src.nd hi hj hbb
       subst hij
       rw [hi] at hj
       injection hj with hj
       subst hj
       exact hk (hk'.symm.trans hkey)
      simp [this]
     rw [hu]
     refine ⟨fun ⟨e', he', hk', hs'⟩ => (hl1 f' t' hft').1 ⟨e', he', hk', by rw [hborn e' he' hk'] at hs'; exact hs'⟩, fun h => (hl1 f' t' hft').2 fun e' he' hk' => by rw [← hborn e' he' hk']; exact h e' he' hk'⟩
  exact fin5 0 (c9_ev (.pointer (some ⟨r, 0, none⟩)) l0 l1 f t bv hft) fun x9 a9 h => h
end Go.Proofs.Ytdgfbfkjdflabaa
namespace Go.Proofs.Ytdgfbfkjdflabaa
open Go.Ev
open Go.WideShapes Go.ChangeMaps
theorem inv_sub {x : Cx} {h hh : Heap} (hi : Inv G0 x h) (hsub : ∀ id o, getO hh id = some o → getO h id = some o) (hlive : ∀ id o, getO hh id = some o → ∀ j ∈ o.refs, (getO hh j).isSome) : Inv G0 x hh where
 bgo := hi.bgo
 obj := fun id o hg => (hi.obj id o (hsub id o hg)).mono (Ext.refl x) rfl rfl rfl (fun j hj => by
  obtain ⟨oj, hoj⟩ := Option.isSome_iff_exists.1 (hlive id o hg j hj)
  exact .same (hoj.trans (hsub j oj hoj).symm) rfl rfl) fun d _ => ⟨rfl, fun _ _ => rfl, fun _ _ _ h => h⟩
 inj := fun i j oi oj gi gj => hi.inj i j oi oj (hsub i oi gi) (hsub j oj gj)
 own := fun id o hg => hi.own id o (hsub id o hg)
 sh := hi.sh
 live := hlive
 glob := fun g j c hg => by simp [G0] at hg
 big := fun id d hg b hb => by
  obtain ⟨h1, h2, h3⟩ := hi.big id d (hsub id _ hg) b hb
  exact ⟨h1, fun i o hgi => h2 i o (hsub i o hgi), fun i d' hgi => h3 i d' (hsub i _ hgi)⟩
theorem hB_sub {l0 l : Nat → Option (List (List UInt8))} {f0 g : Nat → Bool} : ∀ id o, getO (h0N l0 f0) id = some o → getO (hB l0 f0 l g) id = some o
 | 0, _, h => h
 | 1, _, h => h
 | 2, _, h => h
 | 3, _, h => by simp [getO] at h
 | 4, _, h => by simp [getO] at h
 | 5, _, h => by simp [getO] at h
 | k + 6, _, h => by simp [getO] at h
theorem h0N_live {l0 : Nat → Option (List (List UInt8))} {f0 : Nat → Bool} : ∀ id o, getO (h0N l0 f0) id = some o → ∀ j ∈ o.refs, (getO (h0N l0 f0) j).isSome
 | 0, _, h => by
  simp [getO] at h; subst h
  intro j hj
  have hj' : j = 1 ∨ j = 2 := by simpa [Obj.refs, refsL, AV.refs] using hj
  rcases hj' with rfl | rfl <;> rfl
 | 1, _, h => by simp [getO] at h; subst h; intro j hj; simp [Obj.refs] at hj
 | 2, _, h => by simp [getO] at h; subst h; intro j hj; simp [Obj.refs] at hj
 | 3, _, h => by simp [getO] at h
 | 4, _, h => by simp [getO] at h
 | 5, _, h => by simp [getO] at h
 | k + 6, _, h => by simp [getO] at h
theorem hB_get {l0 l0' l : Nat → Option (List (List UInt8))} {f0 f0' g : Nat → Bool} : ∀ id, getO (hB l0' f0' l g) id = if 6 ≤ id then getO (hB l0 f0 l g) id else getO (h0N l0' f0') id
 | 0 => rfl
 | 1 => rfl
 | 2 => rfl
 | 3 => rfl
 | 4 => rfl
 | 5 => rfl
 | 6 => rfl
 | 7 => rfl
 | 8 => rfl
 | k + 9 => by simp [getO]
theorem h0N_get {l0 l : Nat → Option (List (List UInt8))} {f0 g : Nat → Bool} : ∀ id, getO (h0N l0 f0) id = if 6 ≤ id then none else getO (hB l0 f0 l g) id
 | 0 => rfl
 | 1 => rfl
 | 2 => rfl
 | 3 => rfl
 | 4 => rfl
 | 5 => rfl
 | k + 6 => by simp [getO]
theorem h0N_hi {l0 : Nat → Option (List (List UInt8))} {f0 : Nat → Bool} (id : Nat) (h : 6 ≤ id) : getO (h0N l0 f0) id = none := by
 obtain ⟨k, rfl⟩ : ∃ k, id = 6 + k := ⟨id - 6, by omega⟩
 simp [getO]
theorem hB_cl {l0 l : Nat → Option (List (List UInt8))} {f0 g : Nat → Bool} : ∀ id o, 6 ≤ id → getO (hB l0 f0 l g) id = some o → ∀ j ∈ o.refs, 6 ≤ j
 | 6, _, _, h => by
  simp [getO] at h; subst h
  intro j hj
  have hj' : j = 7 ∨ j = 8 := by simpa [Obj.refs, refsL, AV.refs] using hj
  omega
 | 7, _, _, h => by simp [getO] at h; subst h; intro j hj; simp [Obj.refs] at hj
 | 8, _, _, h => by simp [getO] at h; subst h; intro j hj; simp [Obj.refs] at hj
 | k + 9, _, _, h => by simp [getO] at h
theorem unhideB {x x' : Cx} {l0 l0' l : Nat → Option (List (List UInt8))} {f0 f0' g : Nat → Bool} (hi : Inv G0 x (hB l0 f0 l g)) (hi' : Inv G0 x' (h0N l0' f0')) (st : SStep 6 x (h0N l0 f0) x' (h0N l0' f0')) :
  ∃ x2 : Cx, x2.w = x'.w ∧ Inv G0 x2 (hB l0' f0' l g) ∧ SStep 6 x (hB l0 f0 l g) x2 (hB l0' f0' l g) ∧ (∀ v, RelV x' (h0N l0' f0') (.ptr 0 0) v → RelV x2 (hB l0' f0' l g) (.ptr 0 0) v) ∧ ∀ v, RelV x (hB l0 f0 l g) (.ptr 6 0) v → RelV x2 (hB l0' f0' l g) (.ptr 6 0) v := by
 obtain ⟨h1, h2⟩ := unhide (ns := 6) (h2 := hB l0' f0' l g) hi hi' st h0N_get h0N_hi hB_get hB_cl
 refine ⟨_, ?_, h1, h2, fun v hv => ?_, fun v hv => ?_⟩
 ·rfl
 ·refine RelV.mono (x := x') (x' := { x' with φ := fun s => if 6 ≤ s then x.φ s else x'.φ s, κ := fun s => if 6 ≤ s then x.κ s else x'.κ s, Ω := fun s => if 6 ≤ s then x.Ω s else x'.Ω s }) (h' := hB l0' f0' l g) ⟨rfl, rfl, fun b o hs => ⟨hs, rfl⟩⟩ hv fun id hid => ?_
  simp only [AV.refs, List.mem_singleton] at hid
  subst hid
  exact .same rfl rfl rfl
 ·refine hv.mono h2.ext fun id hid => ?_
  simp only [AV.refs, List.mem_singleton] at hid
  subst hid
  exact .same rfl rfl rfl
theorem lines_src {x : Cx} {l0 l : Nat → Option (List (List UInt8))} {f0 g : Nat → Bool} (hi : Inv G0 x (hB noL noF l g)) (hlen : ((List.range 64).all fun k => decide (((l k).getD []).length ≤ 1048576)) = true) : ∃ es clock, SrcL x (x.φ 7) es clock l := by
 obtain ⟨es, clock, k1, k3, k4⟩ := lines_of (id := 7) hi rfl
 refine ⟨es, clock, k1, fun e he => ?_, k3.all, k3.one, List.pairwise_map.2 k3.born, k3.old, fun f t hft => ?_, fun id o hg hp => ?_, fun id d hg hO => ?_⟩
 ·obtain ⟨f, t, q1, q2, q3, q4⟩ := k3.key e he
  refine ⟨f, t, q1, q2, q3, row_rep q4, ?_⟩
  obtain ⟨cap, _, _, h, _⟩ := q4.at_
  exact ⟨_, _, _, h⟩
 ·have hk : lnIx f t < 64 := by
   simp only [isLine, decide_eq_true_eq] at hft
   simp only [lnIx]
   omega
  simpa using List.all_eq_true.1 hlen (lnIx f t) (List.mem_range.2 hk)
 ·have h2 := hi.inj id 7 _ _ (hB_sub id o hg) rfl (hN_some (l1 := noL) (f1 := noF) hg).2 (by simp) hp
  subst h2
  simp [getO] at hg
 ·exact (hi.big id d (hB_sub id _ hg) _ hO).2.1 7 _ rfl (by simp) rfl
theorem flags_src {x : Cx} {l0 l : Nat → Option (List (List UInt8))} {g : Nat → Bool} (hi : Inv G0 x (hB l0 noF l g)) : ∃ es clock, SrcF x (x.φ 8) es clock l0 g := by
 obtain ⟨es, clock, k1, k3, k4, k5, k6, k7⟩ := flags_of (id := 8) hi rfl
 refine ⟨es, clock, k1, k3, k4, k5, List.pairwise_map.2 k6, k7, fun id o hg hp => ?_, fun id d hg hO => ?_⟩
 ·have h2 := hi.inj id 8 _ _ (hB_sub id o hg) rfl (hN_some (l1 := noL) (f1 := noF) hg).2 (by simp) hp
  subst h2
  simp [getO] at hg
 ·exact (hi.big id d (hB_sub id _ hg) _ hO).2.1 8 _ rfl (by simp) rfl
theorem lines_same {l l' : Nat → Option (List (List UInt8))} {w : World} {S : Nat → Nat → Prop} {b : Nat} {Ω : Nat → Prop} (h : LinesAt l' w S b Ω) (hl : ∀ f t, isLine f t = true → l' (lnIx f t) = l (lnIx f t)) : LinesAt l w S b Ω := by
 obtain ⟨es, clock, k1, k3, k4⟩ := h
 refine ⟨es, clock, k1, ⟨fun e he => ?_, fun f t h1 h2 => k3.all f t h1 (by rw [hl f t h1]; exact h2), k3.one, k3.born, k3.old⟩, k4⟩
 obtain ⟨f, t, q1, q2, q3, q4⟩ := k3.key e he
 exact ⟨f, t, q1, q2, by rw [← hl f t q1]; exact q3, by rw [← hl f t q1]; exact q4⟩
theorem flags_same {g g' : Nat → Bool} {w : World} {b : Nat} (h : FlagsAt g' w b) (hl : ∀ f t, isLine f t = true → g' (lnIx f t) = g (lnIx f t)) : FlagsAt g w b := by
 obtain ⟨es, clock, k1, k3, k4, k5⟩ := h
 refine ⟨es, clock, k1, fun e he => ?_, fun f t h1 h2 => k4 f t h1 (by rw [hl f t h1]; exact h2), k5⟩
 obtain ⟨f, t, q1, q2, q3⟩ := k3 e he
 exact ⟨f, t, q1, q2, by rw [← hl f t q1]; exact q3⟩
theorem big_same {x : Cx} {h : Heap} {id : Nat} {d d' : Big} (hi : Inv G0 x h) (hg : getO h id = some (.big d)) (hr : netRel.rel d' x.w x.S (x.φ id) (x.Ω id)) : ∃ x2 : Cx, x2.w = x.w ∧ Inv G0 x2 (h.set id (some (.big d'))) ∧ Step (fun _ => True) x h x2 (h.set id (some (.big d'))) := by
 obtain ⟨h1, h2⟩ := big_upd (d' := d') (w' := x.w) (S' := x.S) (Ω' := x.Ω id) hi hg (Nat.le_refl _) (fun _ _ _ _ => rfl) (fun _ _ _ => rfl) (fun _ _ h => h) (fun _ _ h => .inl h) (fun _ h => .inl h) hr rfl rfl rfl fun _ h => h
 refine ⟨_, ?_, h1, h2⟩
 rfl
end Go.Proofs.Ytdgfbfkjdflabaa
namespace Go.Proofs.Ytdgfbfkjdflabaa
open Go.Ev
open Go.WideShapes Go.ChangeMaps
theorem relB {x : Cx} {st : St} {a a' : Act} {t' : List AV} {h' : Heap} (hi : Inv G0 x h') (hb : x.B0 ≤ x.w.heap.size) (hsz : a'.tmps.size = t'.length) (hv : ∀ i, i < t'.length → RelV x h' (t'.getD i .undef) (a'.tmps.getD i undef)) (hl : ∀ id ∈ refsL t', (getO h' id).isSome) : RelS G0 x ⟨t', h'⟩ a' := ⟨hi, hb, hsz, hv, hl⟩
def onlyU (l : List Nat) (t : List AV) : Bool := (t.mapIdx fun i a => (match a with | .undef => true | _ => false) || l.contains i).all id
theorem onlyU_ok {l : List Nat} {t : List AV} (h : onlyU l t = true) {i : Nat} (hi : i ∉ l) : t.getD i .undef = .undef := by
 rcases Nat.lt_or_ge i t.length with hlt | hge
 ·have h1 := List.all_eq_true.1 h ((match t[i] with | .undef => true | _ => false) || l.contains i) (List.mem_of_getElem? (i := i) (by simp [hlt]))
  have h2 : l.contains i = false := by simpa using hi
  rw [h2, Bool.or_false] at h1
  simp only [id] at h1
  simp only [List.getD, List.getElem?_eq_getElem hlt, Option.getD_some]
  split at h1
  ·rename_i h3; exact h3
  ·cases h1
 ·simp [List.getD, List.getElem?_eq_none hge]
theorem onlyK (v0 v13 : Value) (l0 : Nat → Option (List (List UInt8))) (f0 : Nat → Bool) : onlyU [0, 3, 13] (cK v0 v13 l0 f0).t = true := by kernel_rfl
theorem onlyD (v30 : Value) (l0 : Nat → Option (List (List UInt8))) (f0 : Nat → Bool) : onlyU [3, 30] (dK v30 l0 f0).t = true := by kernel_rfl
theorem onlyC (l0 l : Nat → Option (List (List UInt8))) (f0 g : Nat → Bool) : onlyU [0, 3] (cC l0 f0 l g).t = true := by kernel_rfl
theorem onlyT (l0 l : Nat → Option (List (List UInt8))) (f0 g : Nat → Bool) : onlyU [3] (cT l0 f0 l g).t = true := by kernel_rfl
theorem ptr0_sub {x : Cx} {l0 l : Nat → Option (List (List UInt8))} {f0 g : Nat → Bool} {v : Value} (h : RelV x (hB l0 f0 l g) (.ptr 0 0) v) : RelV x (h0N l0 f0) (.ptr 0 0) v :=
 h.mono (Ext.refl x) fun id hid => by
  simp only [AV.refs, List.mem_singleton] at hid
  subst hid
  exact .same rfl rfl rfl
theorem hide1 {x : Cx} {l : Nat → Option (List (List UInt8))} {g : Nat → Bool} {a : Act} {m s c : Nat} {seen : Array Nat} (hs : RelS G0 x (cD noL noF l g) a) (hi : Inv G0 { x with w := x.w.alloc (.mapIter (some m) s seen c) } (h0N noL noF)) (he : Ext x { x with w := x.w.alloc (.mapIter (some m) s seen c) }) :
  RelS G0 { x with w := x.w.alloc (.mapIter (some m) s seen c) } (cK (a.tmps.getD 0 undef) (.pointer (some ⟨x.w.heap.size, 0, none⟩)) noL noF) (a.put (some 13) (.pointer (some ⟨x.w.heap.size, 0, none⟩))) := by
 have hz : a.tmps.size = 43 := hs.size
 refine relB (st := ⟨[], []⟩) (a := a) hi (Nat.le_trans hs.b0 (by show x.w.heap.size ≤ (x.w.alloc _).heap.size; rw [alloc_size]; omega)) (by rw [put_size]; exact hz) (fun i _ => ?_) fun id hid => ?_
 ·by_cases h0 : i = 0
  ·subst h0
   rw [put_other (by decide)]
   exact .s _
  by_cases h3 : i = 3
  ·subst h3
   rw [put_other (by decide)]
   exact (ptr0_sub (hs.val 3)).mono he fun j _ => .same rfl rfl rfl
  by_cases h13 : i = 13
  ·subst h13
   rw [put_same (by omega)]
   exact .s _
  ·have := onlyU_ok (onlyK (a.tmps.getD 0 undef) (.pointer (some ⟨x.w.heap.size, 0, none⟩)) noL noF) (i := i) (by simp; omega)
   rw [this]
   exact .undef _
 ·have : id = 0 := by simpa [refsL, AV.refs] using hid
  subst this
  rfl
theorem hide2 {x : Cx} {l0 l : Nat → Option (List (List UInt8))} {g : Nat → Bool} {a : Act} {m s c : Nat} {seen : Array Nat} (hs : RelS G0 x (cD6 l0 noF l g) a) (hi : Inv G0 { x with w := x.w.alloc (.mapIter (some m) s seen c) } (h0N l0 noF)) (he : Ext x { x with w := x.w.alloc (.mapIter (some m) s seen c) }) :
  RelS G0 { x with w := x.w.alloc (.mapIter (some m) s seen c) } (dK (.pointer (some ⟨x.w.heap.size, 0, none⟩)) l0 noF) (a.put (some 30) (.pointer (some ⟨x.w.heap.size, 0, none⟩))) := by
 have hz : a.tmps.size = 43 := hs.size
 refine relB (st := ⟨[], []⟩) (a := a) hi (Nat.le_trans hs.b0 (by show x.w.heap.size ≤ (x.w.alloc _).heap.size; rw [alloc_size]; omega)) (by rw [put_size]; exact hz) (fun i _ => ?_) fun id hid => ?_
 ·by_cases h3 : i = 3
  ·subst h3
   rw [put_other (by decide)]
   exact (ptr0_sub (hs.val 3)).mono he fun j _ => .same rfl rfl rfl
  by_cases h13 : i = 30
  ·subst h13
   rw [put_same (by omega)]
   exact .s _
  ·have := onlyU_ok (onlyD (.pointer (some ⟨x.w.heap.size, 0, none⟩)) l0 noF) (i := i) (by simp; omega)
   rw [this]
   exact .undef _
 ·have : id = 0 := by simpa [refsL, AV.refs] using hid
  subst this
  rfl
theorem contract_Clone (l : Nat → Option (List (List UInt8))) (g : Nat → Bool) (hlen : ((List.range 64).all fun k => decide (((l k).getD []).length ≤ 1048576)) = true) : Contract Try.prog G0 13 [.ptr 0 0] [oN, oL l, oF g] [.ptr 3 0] [oN, oL l, oF g, .var [.mp 4, .mp 5], oL l, oF g] := by
 obtain ⟨c, hbody, htr, hres, _, hnt⟩ := trFn_inv okClone
 have hc : bodyCl = c := by
  have := bodyCl_is.symm.trans hbody
  injection this
 have q2 := regC2
 have q3 := regC3
 have q4 := regC4
 have q6 := regC6
 have q7 := regC7
 have q8 := regC8
 generalize rId (cAt bodyCl pC2) = id2 at q2
 generalize rId (cAt bodyCl pC3) = id3 at q3
 generalize rId (cAt bodyCl pC4) = id4 at q4
 generalize rId (cAt bodyCl pC6) = id6 at q6
 generalize rId (cAt bodyCl pC7) = id7 at q7
 generalize rId (cAt bodyCl pC8) = id8 at q8
 rw [hc] at q2 q3 q4 q6 q7 q8
 clear hc
 intro x vals hBz hinv hal har hlv
 refine calls_of_wp Try.func13 hbody ?_
 clear hbody
 have hst0 := start_ok (fn := iClone) hnt hBz hinv hal har hlv
 obtain ⟨r0, ca, rfl, k0, g1⟩ := trIR_seq htr
 obtain ⟨r1, cb, rfl, k1, g2⟩ := trIR_seq g1
 obtain ⟨cc, cd, rfl, g3, g4⟩ := trIR_seq g2
 obtain ⟨r2, ce, rfl, _, g5⟩ := trIR_seq g3
 obtain ⟨cf, rfl, _, g6⟩ := trIR_block g5
 obtain ⟨cl, rfl, _, kL⟩ := trIR_loop g6
 obtain ⟨cg, ct, rfl, g7, kT⟩ := trIR_seq g4
 obtain ⟨r6, ch, rfl, _, g8⟩ := trIR_seq g7
 obtain ⟨ci, rfl, _, g9⟩ := trIR_block g8
 obtain ⟨cm, rfl, _, kM⟩ := trIR_loop g9
 simp only [cAt, if_true, if_false, Nat.one_ne_zero] at q2 q3 q4 q6 q7 q8
 subst q2 q6
 have h0 : RelS G0 (x.up 6) (cA l g) _ := keep_rel hst0 (ks43 [0])
 refine wp_seq ?_
 refine seg_ok (x := x.up 6) (tab := tab) tabOk xok0 gf0 k0 h0 (c0_ev l g) fun x1 a1 h1 s1 d1 => ?_
 have h1' : RelS G0 x1 (cA l g) a1 := keep_rel h1 (ks43 [0])
 refine wp_seq ?_
 refine seg_ok (tab := tab) tabOk xok0 gf0 k1 h1' (c1_ev l g) fun x2 a2 h2 s2 d2 => ?_
 have h2' : RelS G0 x2 (cC noL noF l g) a2 := keep_rel h2 (ks43 [0, 3])
 refine wp_seq (wp_seq (wp_region ?_))
 rw [sizeC2]
 show wpOps Try.prog (opsC pC2) _ (List.range' 0 cq2.length ++ [4]) a2 x2.w
 obtain ⟨nn, hev⟩ := ops_of (c2_ev noL noF l g)
 refine part_ok (evN_ok (G := G0) tabOk xok0 gf0 nn) cq2 0 (part_tr trC2) h2' hev fun x5 a5 h5 s5 d5 => ?_
 obtain ⟨es, clock, src⟩ := lines_src (l0 := noL) (f0 := noF) h5.inv hlen
 have e12 : a5.eval (.tmp 12) = .map (some (x5.φ 7)) := mp_inv (d := .lines l) (h5.val 12) rfl
 rw [wpOps_cons]
 refine op_step (atC (by rw [sizeC2]; decide)) gC2_4 (v := .pointer (some ⟨x5.w.heap.size, 0, none⟩)) (w' := x5.w.alloc (.mapIter (some (x5.φ 7)) clock #[] clock)) (by simp [execOp, opC2_4, e12, range_run und56 src.hb]) ?_
 rw [dstC2_4]
 have i5 := inv_sub h5.inv hB_sub h0N_live
 obtain ⟨i6, s6, e6, f6⟩ := iter_ok i5 (x5.φ 7) clock clock #[]
 have h6 := hide1 h5 i6 e6
 refine wp_block ?_
 refine loopC1 kL q3 q4 src (Nat.le_refl _) (x0 := { x5 with w := x5.w.alloc (.mapIter (some (x5.φ 7)) clock #[] clock) }) h6 (toS s6) f6 (alloc_new _ _) fun x7 a7 l' h7 s7 d7 hl' => ?_
 obtain ⟨x8, w8, i8, s8, p8, q8'⟩ := unhideB h5.inv h7.inv s7
 have h8 : RelS G0 x8 (cC l' noF l g) a7 := by
  refine relB (st := ⟨[], []⟩) (a := a7) i8 (by rw [w8]; have := h7.b0; rw [s8.ext.b0]; rwa [s7.ext.b0] at this) h7.size (fun i _ => ?_) fun id hid => ?_
  ·by_cases c0 : i = 0
   ·subst c0
    have e := (h7.val 0).s_inv
    rw [show a7.tmps.getD 0 undef = a5.tmps.getD 0 undef from e]
    exact q8' _ (h5.val 0)
   by_cases c3 : i = 3
   ·subst c3
    exact p8 _ (h7.val 3)
   ·rw [onlyU_ok (onlyC l' l noF g) (i := i) (by simp; omega)]
    exact .undef _
  ·have : id = 6 ∨ id = 0 := by simpa [refsL, AV.refs] using hid
   rcases this with rfl | rfl <;> rfl
 show Code.wp _ _ _ _ x7.w
 rw [← w8]
 refine wp_seq (wp_seq (wp_region ?_))
 rw [sizeC6]
 show wpOps Try.prog (opsC pC6) _ (List.range' 0 cq6.length ++ [4]) a7 x8.w
 obtain ⟨nm, hev6⟩ := ops_of (c6_ev l' noF l g)
 refine part_ok (evN_ok (G := G0) tabOk xok0 gf0 nm) cq6 0 (part_tr trC6) h8 hev6 fun x9 a9 h9 s9 d9 => ?_
 obtain ⟨es2, clock2, src2⟩ := flags_src (l0 := l') h9.inv
 have e29 : a9.eval (.tmp 29) = .map (some (x9.φ 8)) := mp_inv (d := .flags g) (h9.val 29) rfl
 rw [wpOps_cons]
 refine op_step (atC (by rw [sizeC6]; decide)) gC6_4 (v := .pointer (some ⟨x9.w.heap.size, 0, none⟩)) (w' := x9.w.alloc (.mapIter (some (x9.φ 8)) clock2 #[] clock2)) (by simp [execOp, opC6_4, e29, range_run und57 src2.hb]) ?_
 rw [dstC6_4]
 have i9 := inv_sub h9.inv hB_sub h0N_live
 obtain ⟨i10, s10, e10, f10⟩ := iter_ok i9 (x9.φ 8) clock2 clock2 #[]
 have h10 := hide2 h9 i10 e10
 refine wp_block ?_
 refine loopC2 kM q7 q8 src2 (Nat.le_refl _) (x0 := { x9 with w := x9.w.alloc (.mapIter (some (x9.φ 8)) clock2 #[] clock2) }) h10 (toS s10) f10 (alloc_new _ _) fun x11 a11 f' h11 s11 d11 hf' => ?_
 obtain ⟨x12, w12, i12, s12, p12, _⟩ := unhideB h9.inv h11.inv s11
 obtain ⟨x13, w13, i13, s13⟩ := big_same (id := 1) (d := .lines l') (d' := .lines l) i12 rfl (lines_same (lines_of i12 rfl) hl')
 obtain ⟨x14, w14, i14, s14⟩ := big_same (id := 2) (d := .flags f') (d' := .flags g) i13 rfl (flags_same (flags_of i13 rfl) hf')
 have st14 := (toS (ns := 6) s13).trans (toS s14)
 have h14 : RelS G0 x14 (cT l g l g) a11 := by
  refine relB (st := ⟨[], []⟩) (a := a11) i14 (by rw [w14, w13, w12]; have := h11.b0; rw [(s12.trans st14).ext.b0]; rwa [s11.ext.b0] at this) h11.size (fun i _ => ?_) fun id hid => ?_
  ·by_cases c3 : i = 3
   ·subst c3
    have r1 := p12 _ (h11.val 3)
    have r2 := r1.step s13 fun id hid => by
     simp only [AV.refs, List.mem_singleton] at hid
     subst hid
     exact ⟨trivial, rfl⟩
    exact r2.step s14 fun id hid => by
     simp only [AV.refs, List.mem_singleton] at hid
     subst hid
     exact ⟨trivial, rfl⟩
   ·rw [onlyU_ok (onlyT l l g g) (i := i) (by simp; omega)]
    exact .undef _
  ·have : id = 0 := by simpa [refsL, AV.refs] using hid
   subst this
   rfl
 show Code.wp _ _ _ _ x11.w
 rw [← w12, ← w13, ← w14]
 refine seg_ok (tab := tab) tabOk xok0 gf0 kT h14 (cT_ev l g l g) fun x15 a15 h15 s15 d15 => ?_
 have tt : SStep iClone.ns (x.up iClone.ns) (Ev.start iClone [.ptr 0 0] [oN, oL l, oF g]).h x15 (wClone_R (.ptr 0 0) (hB l g l g)).h := (((((((s1.trans s2).trans (toS s5)).trans s8).trans (toS s9)).trans s12).trans st14)).trans s15
 obtain ⟨us, hrun, x16, hw, hpost⟩ := finish_ok (P := Try.prog) (fn := iClone) (ins := [oN, oL l, oF g]) (rs := [.ptr 3 0]) (outs := [oN, oL l, oF g, .var [.mp 4, .mp 5], oL l, oF g]) (func := Try.f13) h15 tt hres rfl
 exact ⟨d15.trans (d11.trans (d9.trans (d7.trans (d5.trans (d2.trans d1))))), mkRes us, hrun, us, rfl, x16, hw, hpost⟩
end Go.Proofs.Ytdgfbfkjdflabaa
namespace Go.Proofs.Ytdgfbfkjdflabaa
open Go.Ev
theorem inv_up {x : Cx} {h : Heap} (hi : Inv G0 x h) : Inv GN x h := ⟨hi.bgo, hi.obj, hi.inj, hi.own, hi.sh, hi.live, hi.glob, hi.big⟩
theorem inv_dn {x : Cx} {h : Heap} (hi : Inv GN x h) : Inv G0 x h := ⟨hi.bgo, hi.obj, hi.inj, hi.own, hi.sh, hi.live, hi.glob, hi.big⟩
theorem post_up {x x' : Cx} {ins : List Ev.Obj} {rs : List AV} {outs : List Ev.Obj} {us : List Value} (h : Post G0 x ins rs outs x' us) : Post GN x ins rs outs x' us := ⟨inv_up h.inv, h.step, h.len, h.rel, h.live⟩
theorem contract_up {f : FuncId} {args : List AV} {ins : List Ev.Obj} {rs : List AV} {outs : List Ev.Obj} (h : Contract Try.prog G0 f args ins rs outs) : Contract Try.prog GN f args ins rs outs := fun x vals hb hi hal har hl =>
 Calls.mono (h x vals hb (inv_dn hi) hal har hl) fun e w' ⟨us, he, x', hw, hp⟩ => ⟨us, he, x', hw, post_up hp⟩
theorem pcontract_up {p : Nat} {args : List AV} {ins : List Ev.Obj} {rs : List AV} {outs : List Ev.Obj} (h : PContract Try.prog G0 p args ins rs outs) : PContract Try.prog GN p args ins rs outs := fun x vals hb hi hal har hl => by
 obtain ⟨us, x', h1, h2⟩ := h x vals hb (inv_dn hi) hal har hl
 exact ⟨us, x', h1, post_up h2⟩
theorem xokN : XOk Try.prog GN where
 ok := fun f args ins rs outs he hlt => by
  have he' : netX9 f args ins = some (rs, outs) := he
  unfold netX9 at he'
  split at he'
  ·rename_i hf
   subst hf
   split at he'
   ·rename_i ms l g
    split at he'
    ·rename_i hc
     split at he'
     ·rename_i n l' hns
      simp only [Option.some.injEq, Prod.mk.injEq] at he'
      obtain ⟨rfl, rfl⟩ := he'
      exact contract_up (contract_Send hc.1 hc.2 hns)
     ·cases he'
    ·cases he'
   ·cases he'
  split at he'
  ·rename_i hf
   subst hf
   split at he'
   ·rename_i l g
    split at he'
    ·rename_i hc
     simp only [Option.some.injEq, Prod.mk.injEq] at he'
     obtain ⟨rfl, rfl⟩ := he'
     exact contract_up (contract_Clone l g hc)
    ·cases he'
   ·cases he'
  ·exact contract_up (xok0.ok f args ins rs outs he' hlt)
 pok := fun f args ins rs outs he hge => by
  have he' : netX9 f args ins = some (rs, outs) := he
  unfold netX9 at he'
  split at he'
  ·rename_i hf
   subst hf
   exact absurd hge (by decide)
  split at he'
  ·rename_i hf
   subst hf
   exact absurd hge (by decide)
  ·exact pcontract_up (xok0.pok f args ins rs outs he' hge)
 enters := fun f args ins r he hlt => by
  have he' : netX9 f args ins = some r := he
  unfold netX9 at he'
  split at he'
  ·rename_i hf
   subst hf
   obtain ⟨c, hc⟩ : ∃ c, Try.f8.body = some c := Option.isSome_iff_exists.1 (by kernel_rfl)
   exact ⟨Try.f8, c, Try.func8, by kernel_rfl, hc⟩
  split at he'
  ·rename_i hf
   subst hf
   obtain ⟨c, hc⟩ : ∃ c, Try.f13.body = some c := Option.isSome_iff_exists.1 (by kernel_rfl)
   exact ⟨Try.f13, c, Try.func13, by kernel_rfl, hc⟩
  ·exact xok0.enters f args ins r he' hlt
theorem netX_le : Le G0.X GN.X := fun f args ins r he => by
 have he' : netX0 f args ins = some r := he
 show netX9 f args ins = some r
 unfold netX9
 split
 ·rename_i hf
  subst hf
  unfold netX0 at he'
  rw [if_neg (by decide), if_neg (by decide), if_neg (by decide), if_neg (by decide), if_neg (by decide), if_neg (by decide), if_neg (by decide)] at he'
  cases he'
 split
 ·rename_i hf
  subst hf
  unfold netX0 at he'
  rw [if_neg (by decide), if_neg (by decide), if_neg (by decide), if_neg (by decide), if_neg (by decide), if_neg (by decide), if_neg (by decide)] at he'
  cases he'
 ·exact he'
theorem evUp {f : Nat} {args : List AV} {ins : List Ev.Obj} {r : List AV × List Ev.Obj} (h : Ev tab G0 f args ins = some r) : Ev tab GN f args ins = some r := Ev_X netX_le h
end Go.Proofs.Ytdgfbfkjdflabaa
namespace Go.Proofs.Ytdgfbfkjdflabaa
open Go.Ev
theorem mC_cells (m : MG) : (mC m).map (ofC true) = mCells m := rfl
theorem mC_ok (m : MG) : ((mC m).all fun c => (ofC true c).cellOk) = true := rfl
theorem unB_eB2 : ∀ m : List UInt8, unB (eB m) = some m
 | [] => rfl
 | b :: m => by
  have hb := b.toNat_lt
  have h1 : byt (b.toNat : Int) = b := by
   simp only [byt]
   rw [show ((b.toNat : Int) % 256) = b.toNat by omega]
   simp
  have h := unB_eB2 m
  simp only [eB, List.map_cons] at h ⊢
  simp only [unB, h]
  rw [if_pos (by omega), h1]
theorem wrOf_mC (m : MG) (h : m.fit) : wrOf (mC m) = some (if m.p.endC = 0 then some m.p.endB else none) := by
 have hw := Write_ev m h
 unfold wrOf
 rw [mC_cells]
 rw [show Ev tab G0 n_entry_Write [.agg (mCells m)] [] = _ from hw]
 by_cases hc : m.p.endC = 0
 ·rw [errV, if_pos hc, if_pos hc]
  simp only [unB_eB2]
  rfl
 ·rw [errV, if_neg hc, if_neg hc]
abbrev opL (l : Nat → Option (List (List UInt8))) : Nat → List (List UInt8) := fun k => (l k).getD []
theorem nSend_eMs (g : Nat → Bool) : ∀ (ms : List MG) (l : Nat → Option (List (List UInt8))) (n : Nat), (∀ m ∈ ms, m.fit ∧ inI m.fr = true ∧ inI m.to = true) → ∃ l', nSend g (eMs ms) l n = some ((sendM g ms (opL l) n).1, l') ∧ opL l' = (sendM g ms (opL l) n).2
 | [], l, n, _ => ⟨l, rfl, rfl⟩
 | m :: r, l, n, h => by
  obtain ⟨h1, h2, h3⟩ := h m (by simp)
  have hr := fun x hx => h x (List.mem_cons_of_mem m hx)
  rw [show eMs (m :: r) = mC m :: eMs r from rfl]
  unfold nSend
  rw [wrOf_mC m h1, show lnOf (mC m) = some (m.fr, m.to) from rfl]
  simp only
  rw [if_pos ⟨rfl, mC_ok m, h2, h3⟩]
  unfold sendM
  by_cases hc : m.p.endC = 0
  ·rw [if_pos hc]
   simp only
   by_cases hd : isLine m.fr m.to = true ∧ g (lnIx m.fr m.to) = false ∧ ((l (lnIx m.fr m.to)).getD []).length < 64
   ·rw [if_pos hd, if_pos ⟨hc, hd⟩]
    obtain ⟨l', e1, e2⟩ := nSend_eMs g r (upd1 l (lnIx m.fr m.to) (some ((l (lnIx m.fr m.to)).getD [] ++ [m.p.endB]))) n hr
    have e : opL (upd1 l (lnIx m.fr m.to) (some ((l (lnIx m.fr m.to)).getD [] ++ [m.p.endB]))) = upd1 (opL l) (lnIx m.fr m.to) (opL l (lnIx m.fr m.to) ++ [m.p.endB]) := by
     funext k
     simp only [opL, upd1]
     split <;> rfl
    rw [e] at e1 e2
    exact ⟨l', e1, e2⟩
   ·rw [if_neg hd, if_neg (fun h => hd h.2)]
    exact nSend_eMs g r l (n + 1) hr
  ·rw [if_neg hc, if_neg (fun h => hc h.1)]
   simp only
   exact nSend_eMs g r l (n + 1) hr
end Go.Proofs.Ytdgfbfkjdflabaa
namespace Go.Proofs.Ytdgfbfkjdflabaa
open Go.Ev
def Sim (r : Rd) (w : Rf) : Prop := w.ok ∧ r.b.length ≤ w.B.length ∧ r.bad = w.bad ∧ (r.bad = false → r.b = w.B.drop w.p)
theorem Sim.len {r : Rd} {w : Rf} (h : Sim r w) : r.b.length ≤ 1073741824 := Nat.le_trans h.2.1 h.1.1
end Go.Proofs.Ytdgfbfkjdflabaa
namespace Go.Proofs.Ytdgfbfkjdflabaa
open Go.Ev
theorem Rd.bytes_le (r : Rd) (most : Int) : (r.bytes most).2.b.length ≤ r.b.length := by
 have h := r.num_le
 simp only [Rd.bytes]
 split
 ·exact h.1
 ·exact Nat.le_trans (Rd.take_le _ _).2.2 h.1
def Rd.kd (r : Rd) : Int := r.byte.1.toNat
theorem Rd.kd_le (r : Rd) : 0 ≤ r.kd ∧ r.kd < 256 := by
 have := r.byte.1.toNat_lt
 unfold Rd.kd
 omega
theorem coder_Byte_k (r : Rd) (h : r.b.length ≤ 1073741824) : Ev tab G0 n_coder_Reader_Byte [.ptr 0 0] [rO r] = some ([u8 r.kd], [rO r.byte.2]) := coder_Byte_ev r h
def hdT (r : Rd) : T × Rd :=
 if r.kd = 3 then (.mk 3 [] [] (r.byte.2.bytes 32).1 [], (r.byte.2.bytes 32).2)
 else if r.kd = 1 then (.mk 1 (r.byte.2.bytes 80).1 ((r.byte.2.bytes 80).2.bytes 1024).1 [] [], ((r.byte.2.bytes 80).2.bytes 1024).2)
 else if r.kd = 2 then (.mk 2 (r.byte.2.bytes 80).1 [] ((r.byte.2.bytes 80).2.bytes 32).1 [], ((r.byte.2.bytes 80).2.bytes 32).2)
 else (.mk r.kd [] [] [] [], r.byte.2)
theorem hdT_le (r : Rd) : (hdT r).2.b.length ≤ r.b.length := by
 have h1 := r.byte_le
 have h2 := r.byte.2.bytes_le 32
 have h3 := r.byte.2.bytes_le 80
 have h4 := (r.byte.2.bytes 80).2.bytes_le 1024
 have h5 := (r.byte.2.bytes 80).2.bytes_le 32
 unfold hdT
 split
 ·simp only; omega
 ·split
  ·simp only; omega
  ·split
   ·simp only; omega
   ·exact h1
def T.with (t : T) (l : List T) : T := .mk t.kind t.key t.value t.digest l
def rdT : Nat → Rd → Bool → T × Rd × Bool
 | 0, r, bad =>
  if r.kd = 0 ∨ r.kd = 3 then ((hdT r).1, (hdT r).2, bad) else ((hdT r).1, (hdT r).2, true)
 | d + 1, r, bad =>
  if r.kd = 0 ∨ r.kd = 3 then ((hdT r).1, (hdT r).2, bad)
  else if (¬ r.kd = 1 ∧ ¬ r.kd = 2) ∨ (hdT r).2.bad = true ∨ bad = true then ((hdT r).1, (hdT r).2, true)
  else
   let p := rdT d (hdT r).2 bad
   let q := rdT d p.2.1 p.2.2
   ((hdT r).1.with [p.1, q.1], q.2.1, q.2.2)
theorem rdT_le : ∀ (d : Nat) (r : Rd) (bad : Bool), (rdT d r bad).2.1.b.length ≤ r.b.length
 | 0, r, bad => by
  have := hdT_le r
  unfold rdT
  split <;> exact this
 | d + 1, r, bad => by
  have := hdT_le r
  have h1 := rdT_le d (hdT r).2 bad
  have h2 := rdT_le d (rdT d (hdT r).2 bad).2.1 (rdT d (hdT r).2 bad).2.2
  unfold rdT
  split
  ·exact this
  ·split
   ·exact this
   ·simp only; omega
abbrev insR (r : Rd) (bad : Bool) : List Ev.Obj := [.var [.ptr 1 0], rO r, .var [bo bad], .var [.clos n_code_Read_1 [.ptr 0 0, .ptr 2 0, .ptr 3 0]]]
theorem avT_leaf {k : Int} {a b c : List UInt8} : avT (.mk k a b c []) = .agg [i64 k, .sl true (eB a), .sl true (eB b), .sl true (eB c), .sl true []] := rfl
theorem eBn : eB [] = [] := rfl
theorem hdT_3 {r : Rd} (h : r.kd = 3) : hdT r = (.mk 3 [] [] (r.byte.2.bytes 32).1 [], (r.byte.2.bytes 32).2) := by unfold hdT; rw [if_pos h]
theorem hdT_1 {r : Rd} (h : r.kd = 1) : hdT r = (.mk 1 (r.byte.2.bytes 80).1 ((r.byte.2.bytes 80).2.bytes 1024).1 [] [], ((r.byte.2.bytes 80).2.bytes 1024).2) := by unfold hdT; rw [if_neg (by omega), if_pos h]
theorem hdT_2 {r : Rd} (h : r.kd = 2) : hdT r = (.mk 2 (r.byte.2.bytes 80).1 [] ((r.byte.2.bytes 80).2.bytes 32).1 [], ((r.byte.2.bytes 80).2.bytes 32).2) := by unfold hdT; rw [if_neg (by omega), if_neg (by omega), if_pos h]
theorem hdT_x {r : Rd} (h3 : ¬ r.kd = 3) (h1 : ¬ r.kd = 1) (h2 : ¬ r.kd = 2) : hdT r = (.mk r.kd [] [] [] [], r.byte.2) := by unfold hdT; rw [if_neg h3, if_neg h1, if_neg h2]
theorem read1_0 (d : Nat) (hd : d ≤ 64) (r : Rd) (bad : Bool) (h : r.b.length ≤ 1073741824) (hk : r.kd = 0) : Ev tab G0 n_code_Read_1 [i64 d, .ptr 0 0, .ptr 2 0, .ptr 3 0] (insR r bad) = some ([avT (hdT r).1], insR (hdT r).2 bad) := by
 have h1 := coder_Byte_k r h
 rw [hdT_x (by omega) (by omega) (by omega)]
 rw [hk] at *
 simp only [avT_leaf, eBn]
 generalize r.byte.2 = r1 at *
 refine Ev_run t_code_Read_1 rfl rfl ?_
 simp (disch := omega) only [go_sem, seval, i_code_Read_1, h1]
theorem read1_3 (d : Nat) (hd : d ≤ 64) (r : Rd) (bad : Bool) (h : r.b.length ≤ 1073741824) (hk : r.kd = 3) : Ev tab G0 n_code_Read_1 [i64 d, .ptr 0 0, .ptr 2 0, .ptr 3 0] (insR r bad) = some ([avT (hdT r).1], insR (hdT r).2 bad) := by
 have h1 := coder_Byte_k r h
 have hl := r.byte_le
 have h2 := coder_ReaderBytes_ev r.byte.2 32 (by omega) (by omega)
 rw [hdT_3 hk]
 rw [hk] at *
 simp only [avT_leaf, eBn]
 generalize r.byte.2.bytes 32 = r2 at *
 generalize r.byte.2 = r1 at *
 refine Ev_run t_code_Read_1 rfl rfl ?_
 simp (disch := omega) only [go_sem, seval, i_code_Read_1, h1, h2]
theorem read1_x (d : Nat) (hd : d ≤ 64) (r : Rd) (bad : Bool) (h : r.b.length ≤ 1073741824) (hk : 3 < r.kd) : Ev tab G0 n_code_Read_1 [i64 d, .ptr 0 0, .ptr 2 0, .ptr 3 0] (insR r bad) = some ([avT (hdT r).1], insR (hdT r).2 true) := by
 have h1 := coder_Byte_k r h
 have hb := r.kd_le
 rw [hdT_x (by omega) (by omega) (by omega)]
 simp only [avT_leaf, eBn]
 generalize r.kd = k at *
 generalize r.byte.2 = r1 at *
 refine Ev_run t_code_Read_1 rfl rfl ?_
 simp (disch := omega) only [go_sem, seval, i_code_Read_1, h1]
theorem errV_cases (r : Rd) : (r.bad = true → errV r.fin = errA 3) ∧ (r.bad = false → errV r.fin = .s .nilIface ∨ errV r.fin = errA 4) := by
 unfold Rd.fin
 cases r.bad
 ·simp only [Bool.false_eq_true, if_false, false_implies, true_and, forall_const]
  split
  ·exact .inr (if_neg (by decide))
  ·exact .inl (if_pos rfl)
 ·simp only [if_true, forall_const, Bool.true_eq_false, false_implies, and_true]
  exact if_neg (by decide)
theorem read1_bad1 (d : Nat) (hd : d ≤ 64) (r : Rd) (bad : Bool) (h : r.b.length ≤ 1073741824) (hk : r.kd = 1) (hb : d = 0 ∨ (hdT r).2.bad = true ∨ bad = true) : Ev tab G0 n_code_Read_1 [i64 d, .ptr 0 0, .ptr 2 0, .ptr 3 0] (insR r bad) = some ([avT (hdT r).1], insR (hdT r).2 true) := by
 have h1 := coder_Byte_k r h
 have hl := r.byte_le
 have hl2 := r.byte.2.bytes_le 80
 have h2 := coder_ReaderBytes_ev r.byte.2 80 (by omega) (by omega)
 have hl3 := (r.byte.2.bytes 80).2.bytes_le 1024
 have h3 := coder_ReaderBytes_ev (r.byte.2.bytes 80).2 1024 (by omega) (by omega)
 have h4 := coder_End_ev ((r.byte.2.bytes 80).2.bytes 1024).2 (by omega)
 have hc := errV_cases ((r.byte.2.bytes 80).2.bytes 1024).2
 rw [hdT_1 hk] at *
 rw [hk] at h1
 simp only [avT_leaf, eBn] at *
 generalize (r.byte.2.bytes 80).2.bytes 1024 = r3 at *
 generalize r.byte.2.bytes 80 = r2 at *
 generalize r.byte.2 = r1 at *
 generalize errV r3.2.fin = e at *
 by_cases hd0 : d = 0
 ·subst hd0
  refine Ev_run t_code_Read_1 rfl rfl ?_
  simp (disch := omega) only [go_sem, seval, i_code_Read_1, h1, h2, h3]
 ·have hd1 : ¬ ((d : Int) = 0) := by omega
  cases hx : r3.2.bad
  ·have hbad : bad = true := by
    rcases hb with hb | hb | hb
    ·omega
    ·rw [hx] at hb; cases hb
    ·exact hb
   subst hbad
   rcases hc.2 hx with rfl | rfl
   ·refine Ev_run t_code_Read_1 rfl rfl ?_
    simp (disch := omega) only [go_sem, seval, i_code_Read_1, h1, h2, h3, h4, hd1]
   ·refine Ev_run t_code_Read_1 rfl rfl ?_
    simp (disch := omega) only [go_sem, seval, i_code_Read_1, h1, h2, h3, h4, hd1]
  ·rw [hc.1 hx] at h4
   refine Ev_run t_code_Read_1 rfl rfl ?_
   simp (disch := omega) only [go_sem, seval, i_code_Read_1, h1, h2, h3, h4, hd1]
end Go.Proofs.Ytdgfbfkjdflabaa
namespace Go.Proofs.Ytdgfbfkjdflabaa
open Go.Ev
theorem eT2 {a b : T} : eT [a, b] = [[C.sc (.int .i64 a.kind), .sl (eB a.key), .sl (eB a.value), .sl (eB a.digest), .sl (eT a.kids)], [C.sc (.int .i64 b.kind), .sl (eB b.key), .sl (eB b.value), .sl (eB b.digest), .sl (eT b.kids)]] := by simp only [eT, cells_eq]
theorem avT_two {k : Int} {a b c : List UInt8} {l : List T} : avT (.mk k a b c l) = .agg [i64 k, .sl true (eB a), .sl true (eB b), .sl true (eB c), .sl true (eT l)] := rfl
theorem with_two {k : Int} {a b c : List UInt8} {m l : List T} : (T.mk k a b c m).with l = .mk k a b c l := rfl
theorem read1_good1 (d : Nat) (hd : d + 1 ≤ 64) (ih : ∀ r bad, r.b.length ≤ 1073741824 → Ev tab G0 n_code_Read_1 [i64 d, .ptr 0 0, .ptr 2 0, .ptr 3 0] (insR r bad) = some ([avT (rdT d r bad).1], insR (rdT d r bad).2.1 (rdT d r bad).2.2)) (r : Rd) (h : r.b.length ≤ 1073741824) (hk : r.kd = 1) (hb : (hdT r).2.bad = false) :
  Ev tab G0 n_code_Read_1 [i64 ((d + 1 : Nat) : Int), .ptr 0 0, .ptr 2 0, .ptr 3 0] (insR r false) = some ([avT ((hdT r).1.with [(rdT d (hdT r).2 false).1, (rdT d (rdT d (hdT r).2 false).2.1 (rdT d (hdT r).2 false).2.2).1])], insR (rdT d (rdT d (hdT r).2 false).2.1 (rdT d (hdT r).2 false).2.2).2.1 (rdT d (rdT d (hdT r).2 false).2.1 (rdT d (hdT r).2 false).2.2).2.2) := by
 have h1 := coder_Byte_k r h
 have hl := r.byte_le
 have hl2 := r.byte.2.bytes_le 80
 have h2 := coder_ReaderBytes_ev r.byte.2 80 (by omega) (by omega)
 have hl3 := (r.byte.2.bytes 80).2.bytes_le 1024
 have h3 := coder_ReaderBytes_ev (r.byte.2.bytes 80).2 1024 (by omega) (by omega)
 have h4 := coder_End_ev ((r.byte.2.bytes 80).2.bytes 1024).2 (by omega)
 have hc := errV_cases ((r.byte.2.bytes 80).2.bytes 1024).2
 have hle := rdT_le d (hdT r).2 false
 have hle0 := hdT_le r
 have k1 := ih (hdT r).2 false (by omega)
 have k2 := ih (rdT d (hdT r).2 false).2.1 (rdT d (hdT r).2 false).2.2 (by omega)
 rw [hdT_1 hk] at *
 rw [hk] at h1
 simp only [with_two, avT_two, eBn, eT2] at *
 generalize (r.byte.2.bytes 80).2.bytes 1024 = r3 at *
 generalize r.byte.2.bytes 80 = r2 at *
 generalize r.byte.2 = r1 at *
 generalize errV r3.2.fin = e at *
 generalize rdT d r3.2 false = p at *
 generalize rdT d p.2.1 p.2.2 = q at *
 rw [hb] at *
 have hd1 : ¬ ((d : Int) + 1 = 0) := by omega
 have e1 : (d : Int) + 1 - 1 = d := by omega
 rcases hc.2 rfl with rfl | rfl
 ·refine Ev_run t_code_Read_1 rfl rfl ?_
  simp (disch := omega) only [go_sem, seval, i_code_Read_1, h1, h2, h3, h4, hd1, hb, e1, k1, k2, lt_code_Read_1]
 ·refine Ev_run t_code_Read_1 rfl rfl ?_
  simp (disch := omega) only [go_sem, seval, i_code_Read_1, h1, h2, h3, h4, hd1, hb, e1, k1, k2, lt_code_Read_1]
theorem read1_good2 (d : Nat) (hd : d + 1 ≤ 64) (ih : ∀ r bad, r.b.length ≤ 1073741824 → Ev tab G0 n_code_Read_1 [i64 d, .ptr 0 0, .ptr 2 0, .ptr 3 0] (insR r bad) = some ([avT (rdT d r bad).1], insR (rdT d r bad).2.1 (rdT d r bad).2.2)) (r : Rd) (h : r.b.length ≤ 1073741824) (hk : r.kd = 2) (hb : (hdT r).2.bad = false) :
  Ev tab G0 n_code_Read_1 [i64 ((d + 1 : Nat) : Int), .ptr 0 0, .ptr 2 0, .ptr 3 0] (insR r false) = some ([avT ((hdT r).1.with [(rdT d (hdT r).2 false).1, (rdT d (rdT d (hdT r).2 false).2.1 (rdT d (hdT r).2 false).2.2).1])], insR (rdT d (rdT d (hdT r).2 false).2.1 (rdT d (hdT r).2 false).2.2).2.1 (rdT d (rdT d (hdT r).2 false).2.1 (rdT d (hdT r).2 false).2.2).2.2) := by
 have h1 := coder_Byte_k r h
 have hl := r.byte_le
 have hl2 := r.byte.2.bytes_le 80
 have h2 := coder_ReaderBytes_ev r.byte.2 80 (by omega) (by omega)
 have hl3 := (r.byte.2.bytes 80).2.bytes_le 32
 have h3 := coder_ReaderBytes_ev (r.byte.2.bytes 80).2 32 (by omega) (by omega)
 have h4 := coder_End_ev ((r.byte.2.bytes 80).2.bytes 32).2 (by omega)
 have hc := errV_cases ((r.byte.2.bytes 80).2.bytes 32).2
 have hle := rdT_le d (hdT r).2 false
 have hle0 := hdT_le r
 have k1 := ih (hdT r).2 false (by omega)
 have k2 := ih (rdT d (hdT r).2 false).2.1 (rdT d (hdT r).2 false).2.2 (by omega)
 rw [hdT_2 hk] at *
 rw [hk] at h1
 simp only [with_two, avT_two, eBn, eT2] at *
 generalize (r.byte.2.bytes 80).2.bytes 32 = r3 at *
 generalize r.byte.2.bytes 80 = r2 at *
 generalize r.byte.2 = r1 at *
 generalize errV r3.2.fin = e at *
 generalize rdT d r3.2 false = p at *
 generalize rdT d p.2.1 p.2.2 = q at *
 rw [hb] at *
 have hd1 : ¬ ((d : Int) + 1 = 0) := by omega
 have e1 : (d : Int) + 1 - 1 = d := by omega
 rcases hc.2 rfl with rfl | rfl
 ·refine Ev_run t_code_Read_1 rfl rfl ?_
  simp (disch := omega) only [go_sem, seval, i_code_Read_1, h1, h2, h3, h4, hd1, hb, e1, k1, k2, lt_code_Read_1]
 ·refine Ev_run t_code_Read_1 rfl rfl ?_
  simp (disch := omega) only [go_sem, seval, i_code_Read_1, h1, h2, h3, h4, hd1, hb, e1, k1, k2, lt_code_Read_1]
theorem rdT_z {r : Rd} (d : Nat) (bad : Bool) (h : r.kd = 0 ∨ r.kd = 3) : rdT d r bad = ((hdT r).1, (hdT r).2, bad) := by cases d <;> (unfold rdT; rw [if_pos h])
theorem rdT_x {r : Rd} (d : Nat) (bad : Bool) (h : ¬ (r.kd = 0 ∨ r.kd = 3)) (h2 : d = 0 ∨ (¬ r.kd = 1 ∧ ¬ r.kd = 2) ∨ (hdT r).2.bad = true ∨ bad = true) : rdT d r bad = ((hdT r).1, (hdT r).2, true) := by
 cases d with
 | zero => unfold rdT; rw [if_neg h]
 | succ d => unfold rdT; rw [if_neg h, if_pos (h2.resolve_left (Nat.succ_ne_zero d))]
theorem rdT_d {r : Rd} (d : Nat) (bad : Bool) (h : ¬ (r.kd = 0 ∨ r.kd = 3)) (h2 : ¬ ((¬ r.kd = 1 ∧ ¬ r.kd = 2) ∨ (hdT r).2.bad = true ∨ bad = true)) : rdT (d + 1) r bad = ((hdT r).1.with [(rdT d (hdT r).2 bad).1, (rdT d (rdT d (hdT r).2 bad).2.1 (rdT d (hdT r).2 bad).2.2).1], (rdT d (rdT d (hdT r).2 bad).2.1 (rdT d (hdT r).2 bad).2.2).2.1, (rdT d (rdT d (hdT r).2 bad).2.1 (rdT d (hdT r).2 bad).2.2).2.2) := by
 rw [rdT, if_neg h, if_neg h2]
end Go.Proofs.Ytdgfbfkjdflabaa
namespace Go.Proofs.Ytdgfbfkjdflabaa
open Go.Ev
def Rf.kd (r : Rf) : Int := r.byte.1.toNat
theorem Rf.kd_le (r : Rf) : 0 ≤ r.kd ∧ r.kd < 256 := by
 have := r.byte.1.toNat_lt
 unfold Rf.kd
 omega
abbrev Rf.spoil (r : Rf) : Rf := ⟨r.B, r.p, true⟩
end Go.Proofs.Ytdgfbfkjdflabaa
namespace Go.Proofs.Ytdgfbfkjdflabaa
open Go.Ev
end Go.Proofs.Ytdgfbfkjdflabaa
namespace Go.Proofs.Ytdgfbfkjdflabaa
open Go.Ev
theorem read1_bad2 (d : Nat) (hd : d ≤ 64) (r : Rd) (bad : Bool) (h : r.b.length ≤ 1073741824) (hk : r.kd = 2) (hb : d = 0 ∨ (hdT r).2.bad = true ∨ bad = true) : Ev tab G0 n_code_Read_1 [i64 d, .ptr 0 0, .ptr 2 0, .ptr 3 0] (insR r bad) = some ([avT (hdT r).1], insR (hdT r).2 true) := by
 have h1 := coder_Byte_k r h
 have hl := r.byte_le
 have hl2 := r.byte.2.bytes_le 80
 have h2 := coder_ReaderBytes_ev r.byte.2 80 (by omega) (by omega)
 have hl3 := (r.byte.2.bytes 80).2.bytes_le 32
 have h3 := coder_ReaderBytes_ev (r.byte.2.bytes 80).2 32 (by omega) (by omega)
 have h4 := coder_End_ev ((r.byte.2.bytes 80).2.bytes 32).2 (by omega)
 have hc := errV_cases ((r.byte.2.bytes 80).2.bytes 32).2
 rw [hdT_2 hk] at *
 rw [hk] at h1
 simp only [avT_leaf, eBn] at *
 generalize (r.byte.2.bytes 80).2.bytes 32 = r3 at *
 generalize r.byte.2.bytes 80 = r2 at *
 generalize r.byte.2 = r1 at *
 generalize errV r3.2.fin = e at *
 by_cases hd0 : d = 0
 ·subst hd0
  refine Ev_run t_code_Read_1 rfl rfl ?_
  simp (disch := omega) only [go_sem, seval, i_code_Read_1, h1, h2, h3]
 ·have hd1 : ¬ ((d : Int) = 0) := by omega
  cases hx : r3.2.bad
  ·have hbad : bad = true := by
    rcases hb with hb | hb | hb
    ·omega
    ·rw [hx] at hb; cases hb
    ·exact hb
   subst hbad
   rcases hc.2 hx with rfl | rfl
   ·refine Ev_run t_code_Read_1 rfl rfl ?_
    simp (disch := omega) only [go_sem, seval, i_code_Read_1, h1, h2, h3, h4, hd1]
   ·refine Ev_run t_code_Read_1 rfl rfl ?_
    simp (disch := omega) only [go_sem, seval, i_code_Read_1, h1, h2, h3, h4, hd1]
  ·rw [hc.1 hx] at h4
   refine Ev_run t_code_Read_1 rfl rfl ?_
   simp (disch := omega) only [go_sem, seval, i_code_Read_1, h1, h2, h3, h4, hd1]
end Go.Proofs.Ytdgfbfkjdflabaa
namespace Go.Proofs.Ytdgfbfkjdflabaa
open Go.Ev
theorem read1_ev : ∀ (d : Nat), d ≤ 64 → ∀ (r : Rd) (bad : Bool), r.b.length ≤ 1073741824 → Ev tab G0 n_code_Read_1 [i64 d, .ptr 0 0, .ptr 2 0, .ptr 3 0] (insR r bad) = some ([avT (rdT d r bad).1], insR (rdT d r bad).2.1 (rdT d r bad).2.2) := fun d => by
 induction d with
 | zero =>
  intro hd r bad h
  have hb := r.kd_le
  by_cases h0 : r.kd = 0
  ·rw [rdT_z 0 bad (.inl h0)]
   exact read1_0 0 hd r bad h h0
  ·by_cases h3 : r.kd = 3
   ·rw [rdT_z 0 bad (.inr h3)]
    exact read1_3 0 hd r bad h h3
   ·rw [rdT_x 0 bad (by omega) (.inl rfl)]
    by_cases h1 : r.kd = 1
    ·exact read1_bad1 0 hd r bad h h1 (.inl rfl)
    ·by_cases h2 : r.kd = 2
     ·exact read1_bad2 0 hd r bad h h2 (.inl rfl)
     ·exact read1_x 0 hd r bad h (by omega)
 | succ d ih =>
  intro hd r bad h
  have ih := ih (by omega)
  have hb := r.kd_le
  by_cases h0 : r.kd = 0
  ·rw [rdT_z (d + 1) bad (.inl h0)]
   exact read1_0 (d + 1) hd r bad h h0
  ·by_cases h3 : r.kd = 3
   ·rw [rdT_z (d + 1) bad (.inr h3)]
    exact read1_3 (d + 1) hd r bad h h3
   ·by_cases hx : (hdT r).2.bad = true ∨ bad = true
    ·rw [rdT_x (d + 1) bad (by omega) (.inr (.inr hx))]
     by_cases h1 : r.kd = 1
     ·exact read1_bad1 (d + 1) hd r bad h h1 (.inr hx)
     ·by_cases h2 : r.kd = 2
      ·exact read1_bad2 (d + 1) hd r bad h h2 (.inr hx)
      ·exact read1_x (d + 1) hd r bad h (by omega)
    ·by_cases h1 : r.kd = 1
     ·rw [rdT_d d bad (by omega) (fun hh => hh.elim (fun a => a.1 h1) hx)]
      have hb1 : bad = false := by cases bad <;> simp_all
      have hb2 : (hdT r).2.bad = false := by cases e : (hdT r).2.bad <;> simp_all
      subst hb1
      exact read1_good1 d hd ih r h h1 hb2
     ·by_cases h2 : r.kd = 2
      ·rw [rdT_d d bad (by omega) (fun hh => hh.elim (fun a => a.2 h2) hx)]
       have hb1 : bad = false := by cases bad <;> simp_all
       have hb2 : (hdT r).2.bad = false := by cases e : (hdT r).2.bad <;> simp_all
       subst hb1
       exact read1_good2 d hd ih r h h2 hb2
      ·rw [rdT_x (d + 1) bad (by omega) (.inr (.inl ⟨h1, h2⟩))]
       exact read1_x (d + 1) hd r bad h (by omega)
def rdR (b : List UInt8) : T × Rd × Bool := rdT 64 ⟨b, false⟩ false
def rdC (b : List UInt8) : Int := if (rdR b).2.2 = true then 3 else (rdR b).2.1.fin
def rdV (b : List UInt8) : T := if rdC b = 0 then (rdR b).1 else .no
theorem avT_no : avT T.no = .agg [i64 0, .sl true [], .sl true [], .sl true [], .sl true []] := rfl
theorem code_Read_ev (b : List UInt8) (h : b.length ≤ 1048576) : Ev tab G0 n_code_Read [.sl true (eB b)] [] = some ([avT (rdV b), errV (rdC b)], []) := by
 have h1 := coder_NewReader_ev b (by omega)
 have h2 := read1_ev 64 (by omega) ⟨b, false⟩ false (by simp only; omega)
 have hl := rdT_le 64 ⟨b, false⟩ false
 have h3 := coder_End_ev (rdR b).2.1 (Nat.le_trans hl (by simp only; omega))
 unfold rdV rdC
 have hf : (rdR b).2.1.fin = 3 ∨ (rdR b).2.1.fin = 4 ∨ (rdR b).2.1.fin = 0 := by
  unfold Rd.fin
  split
  ·exact .inl rfl
  ·split
   ·exact .inr (.inl rfl)
   ·exact .inr (.inr rfl)
 have e64 : ((64 : Nat) : Int) = 64 := rfl
 rw [e64] at h2
 change Ev tab G0 n_code_Read_1 _ _ = some ([avT (rdR b).1], insR (rdR b).2.1 (rdR b).2.2) at h2
 generalize rdR b = p at *
 obtain ⟨t, r, x⟩ := p
 simp only at *
 cases x
 ·simp only [Bool.false_eq_true, if_false]
  rcases hf with hf | hf | hf
  ·rw [hf, errV, if_neg (by decide)] at h3
   rw [hf, if_neg (by decide), errV, if_neg (by decide), avT_no]
   refine Ev_run t_code_Read rfl rfl ?_
   simp (disch := omega) only [go_sem, seval, i_code_Read, h1, h2, h3, lt_code_Read_1]
  ·rw [hf, errV, if_neg (by decide)] at h3
   rw [hf, if_neg (by decide), errV, if_neg (by decide), avT_no]
   refine Ev_run t_code_Read rfl rfl ?_
   simp (disch := omega) only [go_sem, seval, i_code_Read, h1, h2, h3, lt_code_Read_1]
  ·rw [hf, errV, if_pos rfl] at h3
   rw [hf, if_pos rfl, errV, if_pos rfl]
   refine Ev_run t_code_Read rfl rfl ?_
   simp (disch := omega) only [go_sem, seval, i_code_Read, h1, h2, h3, lt_code_Read_1]
 ·simp only [if_true]
  rw [if_neg (by decide), errV, if_neg (by decide), avT_no]
  refine Ev_run t_code_Read rfl rfl ?_
  simp (disch := omega) only [go_sem, seval, i_code_Read, h1, h2, h3, lt_code_Read_1]
end Go.Proofs.Ytdgfbfkjdflabaa
namespace Go.Proofs.Ytdgfbfkjdflabaa
open Go.Ev
def Rel (r : Rd) (bad : Bool) (w : Rf) : Prop := w.ok ∧ ((bad || r.bad) = w.bad) ∧ (w.bad = false → Sim r w)
theorem kd_bad {r : Rd} (h : r.bad = true) : r.kd = 0 ∧ r.byte.2.bad = true := by
 unfold Rd.kd Rd.byte Rd.take
 rw [if_pos h]
 exact ⟨rfl, rfl⟩
theorem hdT_z {r : Rd} (h : r.kd = 0) : hdT r = (.mk r.kd [] [] [] [], r.byte.2) := hdT_x (by omega) (by omega) (by omega)
theorem Rel.bad {r : Rd} {bad : Bool} {w : Rf} (hw : w.ok) (h : bad = true ∨ r.bad = true) (hb : w.bad = true) : Rel r bad w := ⟨hw, by rw [hb]; rcases h with h | h <;> simp [h], fun h => by rw [hb] at h; cases h⟩
theorem Rel.good {r : Rd} {w : Rf} (h : Sim r w) : Rel r false w := ⟨h.1, by rw [Bool.false_or]; exact h.2.2.1, fun _ => h⟩
end Go.Proofs.Ytdgfbfkjdflabaa
namespace Go.Proofs.Ytdgfbfkjdflabaa
open Go.Ev
theorem take_sz {r : Rd} {n : Int} (h : (r.take n).2.bad = false) : (r.take n).1.length + (r.take n).2.b.length ≤ r.b.length ∧ r.bad = false := by
 unfold Rd.take at *
 split at h
 ·cases h
 ·rename_i hb
  split at h
  ·cases h
  ·rename_i hl
   rw [if_neg hb, if_neg hl]
   simp only [List.length_take, List.length_drop]
   exact ⟨by omega, by simpa using hb⟩
theorem byte_sz {r : Rd} (h : r.byte.2.bad = false) : r.byte.2.b.length + 1 ≤ r.b.length ∧ r.bad = false := by
 unfold Rd.byte Rd.take at *
 split at h
 ·cases h
 ·rename_i hb
  split at h
  ·cases h
  ·rename_i hl
   rw [if_neg hb, if_neg hl]
   simp only [List.length_drop]
   exact ⟨by omega, by simpa using hb⟩
theorem num_nb {r : Rd} (h : r.num.2.bad = false) : r.bad = false := by
 cases hb : r.bad
 ·rfl
 ·obtain ⟨h1, h2⟩ := kd_bad hb
  have e : r.byte.1.toNat = 0 := by unfold Rd.kd at h1; omega
  unfold Rd.num at h
  simp only [e] at h
  rw [if_pos (by omega)] at h
  simp only at h
  rw [h2] at h
  cases h
end Go.Proofs.Ytdgfbfkjdflabaa
namespace Go.Proofs.Ytdgfbfkjdflabaa
open Go.Ev
structure Rq where
 r : Rd
 bad : Bool
abbrev oQ (k : Nat) (bad : Bool) : Ev.Obj := .var [.ptr k 0, bo bad]
abbrev inQ (q : Rq) : List Ev.Obj := [oQ 1 q.bad, rO q.r]
def Rq.no (q : Rq) : Bool := q.bad || q.r.bad
def Rq.cnt (q : Rq) : Int × Rq := if 1152921504606846976 < q.r.num.1 then (0, ⟨q.r.num.2, true⟩) else (q.r.num.1, ⟨q.r.num.2, q.bad⟩)
theorem Rq.cnt_le (q : Rq) : q.cnt.2.r.b.length ≤ q.r.b.length ∧ 0 ≤ q.cnt.1 ∧ q.cnt.1 ≤ 1152921504606846976 := by
 have h := q.r.num_le
 unfold Rq.cnt
 split
 ·exact ⟨h.1, by simp only; omega⟩
 ·exact ⟨h.1, by simp only; omega⟩
theorem qcount_ev (q : Rq) (h : q.r.b.length ≤ 1073741824) : Ev tab G0 n_entry_reader_count [.ptr 0 0] (inQ q) = some ([i64 q.cnt.1], inQ q.cnt.2) := by
 have h1 := coder_ReaderNumber_ev q.r h
 have h2 := q.r.num_le
 obtain ⟨r, bad⟩ := q
 unfold Rq.cnt
 simp only at *
 generalize r.num = p at *
 obtain ⟨n, r1⟩ := p
 simp only at *
 refine Ev_run t_entry_reader_count rfl rfl ?_
 by_cases hn : 1152921504606846976 < n
 ·rw [if_pos hn]
  simp (disch := omega) only [go_sem, seval, i_entry_reader_count, h1, hn]
 ·rw [if_neg hn]
  simp (disch := omega) only [go_sem, seval, i_entry_reader_count, h1, hn]
theorem qfine_ev (q : Rq) (h : q.r.b.length ≤ 1073741824) : Ev tab G0 n_entry_reader_fine [.ptr 0 0] (inQ q) = some ([bo (!q.no)], inQ q) := by
 have h1 := coder_End_ev q.r h
 have h2 := errV_cases q.r
 obtain ⟨⟨b, rb⟩, bad⟩ := q
 unfold Rq.no
 simp only at *
 refine Ev_run t_entry_reader_fine rfl rfl ?_
 cases bad
 ·cases rb
  ·rcases h2.2 rfl with h2 | h2
   ·rw [h2] at h1
    simp (disch := omega) only [go_sem, seval, i_entry_reader_fine, h1]
   ·rw [h2] at h1
    simp (disch := omega) only [go_sem, seval, i_entry_reader_fine, h1]
  ·rw [h2.1 rfl] at h1
   simp (disch := omega) only [go_sem, seval, i_entry_reader_fine, h1]
 ·simp (disch := omega) only [go_sem, seval, i_entry_reader_fine]
theorem qend_ev (q : Rq) (h : q.r.b.length ≤ 1073741824) : Ev tab G0 n_entry_reader_end [.ptr 0 0] (inQ q) = some ([errV (if q.no = true then 3 else q.r.fin)], inQ q) := by
 have h0 := qfine_ev q h
 have h1 := coder_End_ev q.r h
 have h2 := errV_cases q.r
 refine Ev_run t_entry_reader_end rfl rfl ?_
 have hn : q.no = true ∨ q.no = false := by cases q.no <;> simp
 rcases hn with hn | hn
 ·rw [hn] at h0 ⊢
  rw [if_pos rfl, errV, if_neg (by decide)]
  simp (disch := omega) only [go_sem, seval, i_entry_reader_end, h0]
 ·rw [hn] at h0 ⊢
  rw [if_neg (by decide)]
  have hb : q.r.bad = false := by
   unfold Rq.no at hn
   rw [Bool.or_eq_false_iff] at hn
   exact hn.2
  rcases h2.2 hb with h2 | h2
  ·rw [h2] at h1 ⊢
   simp (disch := omega) only [go_sem, seval, i_entry_reader_end, h0, h1]
  ·rw [h2] at h1 ⊢
   simp (disch := omega) only [go_sem, seval, i_entry_reader_end, h0, h1]
theorem num_pr (r : Rd) (h : r.bad = false) : r.num.2.bad = true ∨ r.num.2.b.length + 1 ≤ r.b.length := by
 cases hb : r.num.2.bad
 ·right
  have h1 := byte_sz (r := r)
  have h2 := r.byte_le
  revert hb
  simp only [Rd.num]
  split
  ·intro hb; exact (h1 hb).1
  ·split
   ·intro hb; cases hb
   ·intro hb
    have h3 := take_sz hb
    have h4 := (h1 h3.2).1
    have h5 := h3.1
    rename_i h6 h7
    have h8 : 1 ≤ (r.byte.2.take (r.byte.1.toNat - 247)).1.length := by
     rw [not_or] at h7
     omega
    simp only
    omega
 ·exact .inl rfl
theorem Rq.cnt_pr (q : Rq) (h : q.no = false) : q.cnt.2.no = true ∨ q.cnt.2.r.b.length + 1 ≤ q.r.b.length := by
 unfold Rq.no at h
 rw [Bool.or_eq_false_iff] at h
 unfold Rq.cnt Rq.no
 split
 ·exact .inl rfl
 ·rcases num_pr q.r h.2 with h | h
  ·exact .inl (by simp [h])
  ·exact .inr h
def qmem : Nat → Rq → List Int → List Int × Rq
 | 0, q, l => (l, q)
 | n + 1, q, l => if q.no = true then (l, q) else qmem n q.cnt.2 (l ++ [q.cnt.1])
def Rq.mems (q : Rq) : List Int × Rq := qmem q.cnt.1.toNat q.cnt.2 []
def Rq.ent1 (q : Rq) : Ent × Rq := ((q.cnt.1, q.cnt.2.cnt.1, (q.cnt.2.cnt.2.r.bytes 4096).1), ⟨(q.cnt.2.cnt.2.r.bytes 4096).2, q.cnt.2.cnt.2.bad⟩)
def qent : Nat → Rq → List Ent → List Ent × Rq
 | 0, q, l => (l, q)
 | n + 1, q, l => if q.no = true then (l, q) else qent n q.ent1.2 (l ++ [q.ent1.1])
def Rq.ents (q : Rq) : List Ent × Rq := qent q.cnt.1.toNat q.cnt.2 []
theorem qmem_no {n : Nat} {q : Rq} {l : List Int} (h : q.no = true) : qmem n q l = (l, q) := by
 cases n
 ·rfl
 ·unfold qmem; rw [if_pos h]
theorem qmem_go {n : Nat} {q : Rq} {l : List Int} (h : q.no = false) : qmem (n + 1) q l = qmem n q.cnt.2 (l ++ [q.cnt.1]) := by
 rw [qmem, if_neg (by simp [h])]
theorem qent_no {n : Nat} {q : Rq} {l : List Ent} (h : q.no = true) : qent n q l = (l, q) := by
 cases n
 ·rfl
 ·unfold qent; rw [if_pos h]
theorem qent_go {n : Nat} {q : Rq} {l : List Ent} (h : q.no = false) : qent (n + 1) q l = qent n q.ent1.2 (l ++ [q.ent1.1]) := by
 rw [qent, if_neg (by simp [h])]
theorem qmem_le : ∀ (n : Nat) (q : Rq) (l : List Int), (qmem n q l).2.r.b.length ≤ q.r.b.length
 | 0, q, l => Nat.le_refl _
 | n + 1, q, l => by
  cases h : q.no
  ·rw [qmem_go h]
   exact Nat.le_trans (qmem_le n _ _) q.cnt_le.1
  ·rw [qmem_no h]; exact Nat.le_refl _
theorem qmem_cnt : ∀ (n : Nat) (q : Rq) (l : List Int), (qmem n q l).1.length ≤ l.length + q.r.b.length + 1 ∧ (q.no = true → (qmem n q l).1.length = l.length)
 | 0, q, l => by simp only [qmem]; exact ⟨by omega, fun _ => trivial⟩
 | n + 1, q, l => by
  cases h : q.no
  ·rw [qmem_go h]
   have ih := qmem_cnt n q.cnt.2 (l ++ [q.cnt.1])
   rw [List.length_append, List.length_singleton] at ih
   refine ⟨?_, fun h => by cases h⟩
   rcases q.cnt_pr h with h2 | h2
   ·have := ih.2 h2; omega
   ·have := ih.1; omega
  ·rw [qmem_no h]; exact ⟨by simp only; omega, fun _ => rfl⟩
theorem Rq.ent1_le (q : Rq) : q.ent1.2.r.b.length ≤ q.r.b.length := by
 have h1 := q.cnt_le.1
 have h2 := q.cnt.2.cnt_le.1
 have h3 := q.cnt.2.cnt.2.r.bytes_le 4096
 simp only [Rq.ent1]
 omega
theorem qent_le : ∀ (n : Nat) (q : Rq) (l : List Ent), (qent n q l).2.r.b.length ≤ q.r.b.length
 | 0, q, l => Nat.le_refl _
 | n + 1, q, l => by
  cases h : q.no
  ·rw [qent_go h]
   exact Nat.le_trans (qent_le n _ _) q.ent1_le
  ·rw [qent_no h]; exact Nat.le_refl _
theorem num_badT {r : Rd} (h : r.bad = true) : r.num.2.bad = true := by
 cases hb : r.num.2.bad
 ·rw [num_nb hb] at h; cases h
 ·rfl
theorem bytes_badT {r : Rd} (m : Int) (h : r.bad = true) : (r.bytes m).2.bad = true := by
 simp only [Rd.bytes]
 rw [if_pos (.inl (num_badT h))]
theorem cnt_noT {q : Rq} (h : q.no = true) : q.cnt.2.no = true := by
 unfold Rq.no at h ⊢
 rw [Bool.or_eq_true] at h ⊢
 unfold Rq.cnt
 split
 ·exact .inl rfl
 ·rcases h with h | h
  ·exact .inl h
  ·exact .inr (num_badT h)
theorem ent1_noT {q : Rq} (h : q.cnt.2.no = true) : q.ent1.2.no = true := by
 have h2 := cnt_noT h
 unfold Rq.no at h2
 rw [Bool.or_eq_true] at h2
 unfold Rq.no Rq.ent1
 rw [Bool.or_eq_true]
 rcases h2 with h | h
 ·exact .inl h
 ·exact .inr (bytes_badT _ h)
theorem bytes_take (r : Rd) (m : Int) : (r.bytes m).1.length + (r.bytes m).2.b.length ≤ r.b.length := by
 have h := r.num_le
 simp only [Rd.bytes]
 split
 ·simp only [List.length_nil]; omega
 ·have h2 : ∀ (r : Rd) (n : Int), (r.take n).1.length + (r.take n).2.b.length ≤ r.b.length := fun r n => by
   unfold Rd.take
   split
   ·simp
   ·split
    ·simp
    ·simp only [List.length_take, List.length_drop]; omega
  have := h2 r.num.2 r.num.1
  omega
theorem Rq.ent1_pr (q : Rq) (h : q.no = false) : q.ent1.1.2.2.length + q.ent1.2.r.b.length ≤ q.r.b.length ∧ (q.ent1.2.no = true ∨ q.ent1.1.2.2.length + q.ent1.2.r.b.length + 1 ≤ q.r.b.length) := by
 have h1 := q.cnt_le.1
 have h2 := q.cnt.2.cnt_le.1
 have h3 := bytes_take q.cnt.2.cnt.2.r 4096
 refine ⟨by simp only [Rq.ent1]; omega, ?_⟩
 rcases q.cnt_pr h with h4 | h4
 ·exact .inl (ent1_noT h4)
 ·right; simp only [Rq.ent1]; omega
theorem sumE_app : ∀ a b : List Ent, sumE (a ++ b) = sumE a + sumE b
 | [], b => by simp [sumE]
 | x :: a, b => by simp only [List.cons_append, sumE, sumE_app a b]; omega
theorem qent_cnt : ∀ (n : Nat) (q : Rq) (l : List Ent), sumE (qent n q l).1 ≤ sumE l + 41 * q.r.b.length + 40 ∧ (q.no = true → sumE (qent n q l).1 = sumE l)
 | 0, q, l => by simp only [qent]; exact ⟨by omega, fun _ => trivial⟩
 | n + 1, q, l => by
  cases h : q.no
  ·rw [qent_go h]
   have ih := qent_cnt n q.ent1.2 (l ++ [q.ent1.1])
   rw [sumE_app] at ih
   simp only [sumE] at ih
   have h5 := q.ent1_pr h
   refine ⟨?_, fun h => by cases h⟩
   rcases h5.2 with h2 | h2
   ·have := ih.2 h2; omega
   ·have := ih.1; omega
  ·rw [qent_no h]; exact ⟨by simp only; omega, fun _ => rfl⟩
end Go.Proofs.Ytdgfbfkjdflabaa
namespace Go.Proofs.Ytdgfbfkjdflabaa
open Go.Ev
abbrev rowI2 (l : List Int) : Ev.Obj := .row ty_int 1 true false (eI .i64 l)
abbrev rowE2 (l : List Ent) : Ev.Obj := .row ty_api_Entry 3 true false (eE l)
theorem eIa {k : IntKind} {a b : List Int} : eI k a ++ eI k b = eI k (a ++ b) := by simp [eI]
theorem eIe {x : Int} : (eI .i64 [x]).isEmpty = false := rfl
theorem eI0 : eI .i64 [] = [] := rfl
theorem e_sub1 (n : Int) : n + 1 - 1 = n := by omega
theorem qm_loopC : ∀ (n : Nat) (q : Rq) (l : List Int), n ≤ 1152921504606846976 → l ≠ [] → (l.length + q.r.b.length ≤ 1048577 ∨ (q.no = true ∧ l.length ≤ 1048578)) → q.r.b.length ≤ 1048576 → L_entry_reader_members_0 (s_entry_reader_members_K0 (.ptr 1 0) (.row 0 l.length) (i64 n) [some (rowI2 l), some (oQ 2 q.bad), some (rO q.r)]) = some (.exit 0, s_entry_reader_members_J0 (.row 0 (qmem n q l).1.length) [some (rowI2 (qmem n q l).1), some (oQ 2 (qmem n q l).2.bad), some (rO (qmem n q l).2.r)])
 | 0, q, l, hn, hl, hb, hq => by
  have e0 : ((0 : Nat) : Int) = 0 := rfl
  rw [L_entry_reader_members_0_eq, e0]
  simp only [qmem]
  simp (disch := omega) only [go_sem, seval, i_entry_reader_members_b0]
 | n + 1, q, l, hn, hl, hb, hq => by
  rw [L_entry_reader_members_0_eq]
  have h0 := qfine_ev q (by omega)
  have e1 : ((n + 1 : Nat) : Int) = (n : Int) + 1 := by omega
  cases hno : q.no
  ·rw [qmem_go hno]
   rw [hno] at h0
   have h1 := qcount_ev q (by omega)
   have hc := q.cnt_le
   have hp := q.cnt_pr hno
   have hb2 : l.length + q.r.b.length ≤ 1048577 := by rcases hb with h | h; exact h; rw [hno] at h; cases h.1
   have hla : (l ++ [q.cnt.1]).length = l.length + 1 := by simp
   have ih := qm_loopC n q.cnt.2 (l ++ [q.cnt.1]) (by omega) (by simp) (by rcases hp with h | h; exact .inr ⟨h, by omega⟩; exact .inl (by omega)) (by omega)
   simp only [hla] at ih
   generalize qmem n q.cnt.2 (l ++ [q.cnt.1]) = z at *
   generalize q.cnt = p at *
   obtain ⟨x, q2⟩ := p
   simp only at *
   rw [e1]
   try simp (disch := omega) only [go_sem, seval] at ih
   simp (disch := omega) only [go_sem, seval, i_entry_reader_members_b0, eI_1, eI_s1, eIa, eIe, e_sub1, h0, h1, ih]
  ·rw [qmem_no hno]
   rw [hno] at h0
   rw [e1]
   simp (disch := omega) only [go_sem, seval, i_entry_reader_members_b0, h0]
def hM0 (l : List Int) (q : Rq) : Heap := match l with
 | [] => [none, some (oQ 2 q.bad), some (rO q.r)]
 | x :: l => [some (rowI2 (x :: l)), some (oQ 2 q.bad), some (rO q.r)]
def vM0 (k : Nat) (n : Nat) : AV := if n = 0 then .nilsl else .row k n
theorem qm_loopA (n : Nat) (q : Rq) (hn : n ≤ 1152921504606846976) (hq : q.r.b.length ≤ 1048576) : L_entry_reader_members_0 (s_entry_reader_members_K0 (.ptr 1 0) .nilsl (i64 n) [none, some (oQ 2 q.bad), some (rO q.r)]) = some (.exit 0, s_entry_reader_members_J0 (vM0 0 (qmem n q []).1.length) (hM0 (qmem n q []).1 (qmem n q []).2)) := by
 cases n with
 | zero =>
  have e0 : ((0 : Nat) : Int) = 0 := rfl
  rw [L_entry_reader_members_0_eq, e0]
  simp only [qmem, hM0, vM0, List.length_nil]
  simp (disch := omega) only [go_sem, seval, i_entry_reader_members_b0]
 | succ n =>
  rw [L_entry_reader_members_0_eq]
  have h0 := qfine_ev q (by omega)
  have e1 : ((n + 1 : Nat) : Int) = (n : Int) + 1 := by omega
  cases hno : q.no
  ·rw [qmem_go hno]
   rw [hno] at h0
   have h1 := qcount_ev q (by omega)
   have hc := q.cnt_le
   have ih := qm_loopC n q.cnt.2 [q.cnt.1] (by omega) (by simp) (.inl (by simp only [List.length_singleton]; omega)) (by omega)
   simp only [List.length_singleton, List.nil_append] at ih ⊢
   have hk : ∀ (n : Nat) (q : Rq) (l : List Int), l ≠ [] → (qmem n q l).1 ≠ [] := fun n => by
    induction n with
    | zero => intro q l h; exact h
    | succ n ih =>
     intro q l h
     cases hno : q.no
     ·rw [qmem_go hno]; exact ih _ _ (by simp)
     ·rw [qmem_no hno]; exact h
   have hz := hk n q.cnt.2 [q.cnt.1] (by simp)
   generalize qmem n q.cnt.2 [q.cnt.1] = z at *
   obtain ⟨l, q3⟩ := z
   generalize q.cnt = p at *
   obtain ⟨x, q2⟩ := p
   simp only at *
   obtain ⟨y, l, rfl⟩ : ∃ y m, l = y :: m := by cases l with | nil => exact absurd rfl hz | cons y m => exact ⟨y, m, rfl⟩
   simp only [hM0, vM0]
   generalize y :: l = l2 at *
   have hl2 : ¬ l2.length = 0 := fun h => hz (List.length_eq_zero_iff.1 h)
   rw [if_neg hl2, e1]
   try simp (disch := omega) only [go_sem, seval] at ih
   simp (disch := omega) only [go_sem, seval, i_entry_reader_members_b0, eI_1, eI_s1, eIa, eIe, e_sub1, h0, h1, ih]
  ·rw [qmem_no hno]
   rw [hno] at h0
   simp only [hM0, vM0, List.length_nil]
   rw [e1]
   simp (disch := omega) only [go_sem, seval, i_entry_reader_members_b0, h0]
theorem qmems_ev (q : Rq) (hq : q.r.b.length ≤ 1048576) : Ev tab G0 n_entry_reader_members [.ptr 0 0] (inQ q) = some ([.sl true (eI .i64 q.mems.1)], inQ q.mems.2) := by
 have h1 := qcount_ev q (by omega)
 have hc := q.cnt_le
 have h2 := qm_loopA q.cnt.1.toNat q.cnt.2 (by omega) (by omega)
 rw [Int.toNat_of_nonneg hc.2.1] at h2
 unfold Rq.mems
 generalize qmem q.cnt.1.toNat q.cnt.2 [] = z at *
 generalize q.cnt = p at *
 obtain ⟨x, q2⟩ := p
 obtain ⟨l, q3⟩ := z
 simp only at *
 refine Ev_run t_entry_reader_members rfl rfl ?_
 cases l with
 | nil =>
  simp only [hM0, vM0, List.length_nil] at h2
  try simp (disch := omega) only [go_sem, seval] at h2
  simp (disch := omega) only [go_sem, seval, i_entry_reader_members, eI0, h1, h2]
 | cons y l =>
  simp only [hM0, vM0] at h2
  have hl2 : ¬ (y :: l).length = 0 := by simp
  rw [if_neg hl2] at h2
  generalize y :: l = l2 at *
  try simp (disch := omega) only [go_sem, seval] at h2
  simp (disch := omega) only [go_sem, seval, i_entry_reader_members, h1, h2]
end Go.Proofs.Ytdgfbfkjdflabaa
namespace Go.Proofs.Ytdgfbfkjdflabaa
open Go.Ev
theorem eEe {x : Ent} : (eE [x]).isEmpty = false := rfl
theorem eE_s1 {a b : Int} {c : List UInt8} : ([[C.sc (.int .i64 0), C.sc (.int .i64 0), C.sl []]] : List (List C)).set 0 [C.sc (.int .i64 a), C.sc (.int .i64 b), C.sl (eB c)] = eE [(a, b, c)] := rfl
theorem qe_loopC : ∀ (n : Nat) (q : Rq) (l : List Ent), n ≤ 1152921504606846976 → l ≠ [] → (l.length + q.r.b.length ≤ 1048577 ∨ (q.no = true ∧ l.length ≤ 1048578)) → q.r.b.length ≤ 1048576 → L_entry_reader_entries_0 (s_entry_reader_entries_K0 (.ptr 1 0) (.row 0 l.length) (i64 n) [some (rowE2 l), some (oQ 2 q.bad), some (rO q.r)]) = some (.exit 0, s_entry_reader_entries_J0 (.row 0 (qent n q l).1.length) [some (rowE2 (qent n q l).1), some (oQ 2 (qent n q l).2.bad), some (rO (qent n q l).2.r)])
 | 0, q, l, hn, hl, hb, hq => by
  have e0 : ((0 : Nat) : Int) = 0 := rfl
  rw [L_entry_reader_entries_0_eq, e0]
  simp only [qent]
  simp (disch := omega) only [go_sem, seval, i_entry_reader_entries_b0]
 | n + 1, q, l, hn, hl, hb, hq => by
  rw [L_entry_reader_entries_0_eq]
  have h0 := qfine_ev q (by omega)
  have e1 : ((n + 1 : Nat) : Int) = (n : Int) + 1 := by omega
  cases hno : q.no
  ·rw [qent_go hno]
   rw [hno] at h0
   have h1 := qcount_ev q (by omega)
   have hc1 := q.cnt_le
   have h1b := qcount_ev q.cnt.2 (by omega)
   have hc2 := q.cnt.2.cnt_le
   have h1c := coder_ReaderBytes_ev q.cnt.2.cnt.2.r 4096 (by omega) (by omega)
   have hc := q.ent1_le
   have hp := (q.ent1_pr hno).2
   have hb2 : l.length + q.r.b.length ≤ 1048577 := by rcases hb with h | h; exact h; rw [hno] at h; cases h.1
   have hla : (l ++ [q.ent1.1]).length = l.length + 1 := by simp
   have ih := qe_loopC n q.ent1.2 (l ++ [q.ent1.1]) (by omega) (by simp) (by rcases hp with h | h; exact .inr ⟨h, by omega⟩; exact .inl (by omega)) (by omega)
   simp only [hla] at ih
   generalize qent n q.ent1.2 (l ++ [q.ent1.1]) = z at *
   simp only [Rq.ent1] at ih
   clear hp hc hla hb
   have hb3 : l.length ≤ 1048577 := by omega
   clear hb2
   generalize q.cnt = p at *
   obtain ⟨x, q2⟩ := p
   simp only at *
   generalize q2.cnt = p at *
   obtain ⟨y, q3⟩ := p
   simp only at *
   generalize q3.r.bytes 4096 = p at *
   obtain ⟨d, r4⟩ := p
   simp only at *
   rw [e1]
   try simp (disch := omega) only [go_sem, seval] at ih
   simp (disch := omega) only [go_sem, seval, i_entry_reader_entries_b0, eE_one, eE_s1, eE_app, eEe, eE_sz, e_sub1, h0, h1, h1b, h1c, ih]
  ·rw [qent_no hno]
   rw [hno] at h0
   rw [e1]
   simp (disch := omega) only [go_sem, seval, i_entry_reader_entries_b0, h0]
def hE0 (l : List Ent) (q : Rq) : Heap := match l with
 | [] => [none, some (oQ 2 q.bad), some (rO q.r)]
 | x :: l => [some (rowE2 (x :: l)), some (oQ 2 q.bad), some (rO q.r)]
theorem qe_loopA (n : Nat) (q : Rq) (hn : n ≤ 1152921504606846976) (hq : q.r.b.length ≤ 1048576) : L_entry_reader_entries_0 (s_entry_reader_entries_K0 (.ptr 1 0) .nilsl (i64 n) [none, some (oQ 2 q.bad), some (rO q.r)]) = some (.exit 0, s_entry_reader_entries_J0 (vM0 0 (qent n q []).1.length) (hE0 (qent n q []).1 (qent n q []).2)) := by
 cases n with
 | zero =>
  have e0 : ((0 : Nat) : Int) = 0 := rfl
  rw [L_entry_reader_entries_0_eq, e0]
  simp only [qent, hE0, vM0, List.length_nil]
  simp (disch := omega) only [go_sem, seval, i_entry_reader_entries_b0]
 | succ n =>
  rw [L_entry_reader_entries_0_eq]
  have h0 := qfine_ev q (by omega)
  have e1 : ((n + 1 : Nat) : Int) = (n : Int) + 1 := by omega
  cases hno : q.no
  ·rw [qent_go hno]
   rw [hno] at h0
   have h1 := qcount_ev q (by omega)
   have hc1 := q.cnt_le
   have h1b := qcount_ev q.cnt.2 (by omega)
   have hc2 := q.cnt.2.cnt_le
   have h1c := coder_ReaderBytes_ev q.cnt.2.cnt.2.r 4096 (by omega) (by omega)
   have hc := q.ent1_le
   have hp := (q.ent1_pr hno).2
   have ih := qe_loopC n q.ent1.2 [q.ent1.1] (by omega) (by simp) (by rcases hp with h | h; exact .inr ⟨h, by simp⟩; exact .inl (by simp only [List.length_singleton]; omega)) (by omega)
   simp only [List.length_singleton, List.nil_append] at ih ⊢
   have hk : ∀ (n : Nat) (q : Rq) (l : List Ent), l ≠ [] → (qent n q l).1 ≠ [] := fun n => by
    induction n with
    | zero => intro q l h; exact h
    | succ n ih =>
     intro q l h
     cases hno : q.no
     ·rw [qent_go hno]; exact ih _ _ (by simp)
     ·rw [qent_no hno]; exact h
   have hz := hk n q.ent1.2 [q.ent1.1] (by simp)
   generalize qent n q.ent1.2 [q.ent1.1] = z at *
   obtain ⟨l, qz⟩ := z
   simp only [Rq.ent1] at ih
   clear hp hc
   generalize q.cnt = p at *
   obtain ⟨x, q2⟩ := p
   simp only at *
   generalize q2.cnt = p at *
   obtain ⟨y, q3⟩ := p
   simp only at *
   generalize q3.r.bytes 4096 = p at *
   obtain ⟨d, r4⟩ := p
   simp only at *
   obtain ⟨y, l, rfl⟩ : ∃ y m, l = y :: m := by cases l with | nil => exact absurd rfl hz | cons y m => exact ⟨y, m, rfl⟩
   simp only [hE0, vM0]
   generalize y :: l = l2 at *
   have hl2 : ¬ l2.length = 0 := fun h => hz (List.length_eq_zero_iff.1 h)
   rw [if_neg hl2, e1]
   try simp (disch := omega) only [go_sem, seval] at ih
   simp (disch := omega) only [go_sem, seval, i_entry_reader_entries_b0, eE_one, eE_s1, eE_app, eEe, eE_sz, e_sub1, h0, h1, h1b, h1c, ih]
  ·rw [qent_no hno]
   rw [hno] at h0
   simp only [hE0, vM0, List.length_nil]
   rw [e1]
   simp (disch := omega) only [go_sem, seval, i_entry_reader_entries_b0, h0]
theorem qents_ev (q : Rq) (hq : q.r.b.length ≤ 1048576) : Ev tab G0 n_entry_reader_entries [.ptr 0 0] (inQ q) = some ([.sl true (eE q.ents.1)], inQ q.ents.2) := by
 have h1 := qcount_ev q (by omega)
 have hc := q.cnt_le
 have h2 := qe_loopA q.cnt.1.toNat q.cnt.2 (by omega) (by omega)
 rw [Int.toNat_of_nonneg hc.2.1] at h2
 unfold Rq.ents
 generalize qent q.cnt.1.toNat q.cnt.2 [] = z at *
 generalize q.cnt = p at *
 obtain ⟨x, q2⟩ := p
 obtain ⟨l, q3⟩ := z
 simp only at *
 refine Ev_run t_entry_reader_entries rfl rfl ?_
 cases l with
 | nil =>
  simp only [hE0, vM0, List.length_nil] at h2
  try simp (disch := omega) only [go_sem, seval] at h2
  simp (disch := omega) only [go_sem, seval, i_entry_reader_entries, eE_nil, h1, h2]
 | cons y l =>
  simp only [hE0, vM0] at h2
  have hl2 : ¬ (y :: l).length = 0 := by simp
  rw [if_neg hl2] at h2
  generalize y :: l = l2 at *
  try simp (disch := omega) only [go_sem, seval] at h2
  simp (disch := omega) only [go_sem, seval, i_entry_reader_entries, h1, h2]
end Go.Proofs.Ytdgfbfkjdflabaa
namespace Go.Proofs.Ytdgfbfkjdflabaa
open Go.Ev
def Rf.cnt (w : Rf) : Int × Rf := if 1152921504606846976 < w.num.1 then (0, w.num.2.spoil) else w.num
def fmem : Nat → Rf → List Int → List Int × Rf
 | 0, w, l => (l, w)
 | n + 1, w, l => if w.bad = true then (l, w) else fmem n w.cnt.2 (l ++ [w.cnt.1])
def Rf.mems (w : Rf) : List Int × Rf := fmem w.cnt.1.toNat w.cnt.2 []
def Rf.ent1 (w : Rf) : Ent × Rf := ((w.cnt.1, w.cnt.2.cnt.1, (w.cnt.2.cnt.2.bytes 4096).1), (w.cnt.2.cnt.2.bytes 4096).2)
def fent : Nat → Rf → List Ent → List Ent × Rf
 | 0, w, l => (l, w)
 | n + 1, w, l => if w.bad = true then (l, w) else fent n w.ent1.2 (l ++ [w.ent1.1])
def Rf.ents (w : Rf) : List Ent × Rf := fent w.cnt.1.toNat w.cnt.2 []
def Rf.left (w : Rf) : Nat := w.B.length - w.p
end Go.Proofs.Ytdgfbfkjdflabaa
namespace Go.Proofs.Ytdgfbfkjdflabaa
open Go.Ev
theorem eEe2 {x : Ent} : (eE [x]).isEmpty = false := rfl
theorem eE_s1b {a b : Int} {c : List UInt8} : ([[C.sc (.int .i64 0), C.sc (.int .i64 0), C.sl []]] : List (List C)).set 0 [C.sc (.int .i64 a), C.sc (.int .i64 b), C.sl (eB c)] = eE [(a, b, c)] := rfl
end Go.Proofs.Ytdgfbfkjdflabaa
namespace Go.Proofs.Ytdgfbfkjdflabaa
open Go.Ev
abbrev RelQ (q : Rq) (w : Rf) : Prop := Rel q.r q.bad w
theorem RelQ.no {q : Rq} {w : Rf} (h : RelQ q w) : q.no = w.bad := h.2.1
theorem RelQ.bad {q : Rq} {w : Rf} (hw : w.ok) (h : q.no = true) (hb : w.bad = true) : RelQ q w := ⟨hw, by rw [hb]; exact h, fun h2 => by rw [hb] at h2; cases h2⟩
theorem Rq.mems_le (q : Rq) : q.mems.2.r.b.length ≤ q.r.b.length ∧ q.mems.1.length ≤ q.r.b.length + 1 := by
 have h1 := q.cnt_le.1
 have h2 := qmem_le q.cnt.1.toNat q.cnt.2 []
 have h3 := (qmem_cnt q.cnt.1.toNat q.cnt.2 []).1
 simp only [List.length_nil] at h3
 unfold Rq.mems
 omega
theorem Rq.ents_le (q : Rq) : q.ents.2.r.b.length ≤ q.r.b.length ∧ sumE q.ents.1 ≤ 41 * q.r.b.length + 40 := by
 have h1 := q.cnt_le.1
 have h2 := qent_le q.cnt.1.toNat q.cnt.2 []
 have h3 := (qent_cnt q.cnt.1.toNat q.cnt.2 []).1
 simp only [sumE] at h3
 unfold Rq.ents
 omega
def q0 (b : List UInt8) : Rq := ⟨⟨b, false⟩, false⟩
def Rq.fn (q : Rq) : Int := if q.no = true then 3 else q.r.fin
def LG.no : LG := ⟨0, 0, [], []⟩
theorem avLog_no : avLog LG.no = .agg [i64 0, i64 0, .sl true [], .sl true []] := rfl
end Go.Proofs.Ytdgfbfkjdflabaa
namespace Go.Proofs.Ytdgfbfkjdflabaa
open Go.Ev
def Rq.byt (q : Rq) : Int × Rq := (q.r.kd, ⟨q.r.byte.2, q.bad || decide (1 < q.r.kd)⟩)
def Rq.bys (q : Rq) (m : Int) : List UInt8 × Rq := ((q.r.bytes m).1, ⟨(q.r.bytes m).2, q.bad⟩)
def Rq.tre (q : Rq) : T × Rq := (rdV (q.r.bytes 1048576).1, ⟨(q.r.bytes 1048576).2, q.bad || decide (¬ rdC (q.r.bytes 1048576).1 = 0)⟩)
def MG.no : MG := ⟨0, 0, 0, 0, 0, 0, 0, false, [], [], 0, [], T.no⟩
theorem avMsg_no : avMsg MG.no = .agg [i64 0, i64 0, i64 0, i64 0, i64 0, i64 0, i64 0, bo false, .sl true [], .sl true [], i64 0, .sl true [], i64 0, .sl true [], .sl true [], .sl true [], .sl true []] := rfl
theorem avMsg_mk (a b c d e f g : Int) (h : Bool) (i : List Ent) (j : List Int) (k : Int) (l : List UInt8) (t : T) : avMsg ⟨a, b, c, d, e, f, g, h, i, j, k, l, t⟩ = .agg [i64 a, i64 b, i64 c, i64 d, i64 e, i64 f, i64 g, bo h, .sl true (eE i), .sl true (eI .i64 j), i64 k, .sl true (eB l), i64 t.kind, .sl true (eB t.key), .sl true (eB t.value), .sl true (eB t.digest), .sl true (eT t.kids)] := rfl
theorem Rc_false_lt_false_0_0 (b : List UInt8) (hl : ¬ 1048576 < b.length) (x1 x2 x3 x4 x5 x6 x7 : Int) (q1 q2 q3 q4 q5 q6 : Rq) (r7 : Rd) (kd : Int) (r8 : Rd) (x9 : List Ent) (q9 : Rq) (x10 : List Int) (q10 : Rq) (x11 : Int) (r11 : Rd) (x12 : List UInt8) (r12 : Rd) (x13 : List UInt8) (r13 : Rd) (t : T) (hk : ¬ 1 < kd)
  (h0 : Ev tab G0 n_coder_NewReader [.sl true (eB b)] [] = some ([.ptr 0 0], [rO ⟨b, false⟩]))
  (h1 : Ev tab G0 n_entry_reader_count [.ptr 0 0] [oQ 1 false, rO ⟨b, false⟩] = some ([i64 x1], inQ q1))
  (h2 : Ev tab G0 n_entry_reader_count [.ptr 0 0] (inQ q1) = some ([i64 x2], inQ q2))
  (h3 : Ev tab G0 n_entry_reader_count [.ptr 0 0] (inQ q2) = some ([i64 x3], inQ q3))
  (h4 : Ev tab G0 n_entry_reader_count [.ptr 0 0] (inQ q3) = some ([i64 x4], inQ q4))
  (h5 : Ev tab G0 n_entry_reader_count [.ptr 0 0] (inQ q4) = some ([i64 x5], inQ q5))
  (h6 : Ev tab G0 n_entry_reader_count [.ptr 0 0] (inQ q5) = some ([i64 x6], inQ q6))
  (h7 : Ev tab G0 n_entry_reader_count [.ptr 0 0] (inQ q6) = some ([i64 x7], inQ ⟨r7, false⟩))
  (h8 : Ev tab G0 n_coder_Reader_Byte [.ptr 0 0] [rO r7] = some ([u8 kd], [rO r8]))
  (h9 : Ev tab G0 n_entry_reader_entries [.ptr 0 0] (inQ ⟨r8, false⟩) = some ([.sl true (eE x9)], inQ q9))
  (h10 : Ev tab G0 n_entry_reader_members [.ptr 0 0] (inQ q9) = some ([.sl true (eI .i64 x10)], inQ q10))
  (h11 : Ev tab G0 n_entry_reader_count [.ptr 0 0] (inQ q10) = some ([i64 x11], inQ ⟨r11, false⟩))
  (h12 : Ev tab G0 n_coder_Reader_Bytes [.ptr 0 0, i64 32] [rO r11] = some ([.sl true (eB x12)], [rO r12]))
  (h13 : Ev tab G0 n_coder_Reader_Bytes [.ptr 0 0, i64 1048576] [rO r12] = some ([.sl true (eB x13)], [rO r13]))
  (h14 : Ev tab G0 n_code_Read [.sl true (eB x13)] [] = some ([.agg [i64 t.kind, .sl true (eB t.key), .sl true (eB t.value), .sl true (eB t.digest), .sl true (eT t.kids)], .s .nilIface], []))
  (h15 : Ev tab G0 n_entry_reader_end [.ptr 0 0] (inQ ⟨r13, false⟩) = some ([.s .nilIface], inQ ⟨r13, false⟩)) :
  Ev tab G0 n_entry_Read [.sl true (eB b)] [] = some ([avMsg ⟨x1, x2, x3, x4, x5, x6, x7, decide (kd = 1), x9, x10, x11, x12, t⟩, .s .nilIface], []) := by
 rw [avMsg_mk]
 refine Ev_run t_entry_Read rfl rfl ?_
 simp (disch := omega) only [go_sem, seval, i_entry_Read, hl, hk, h0, h1, h2, h3, h4, h5, h6, h7, h8, h9, h10, h11, h12, h13, h14, h15]
end Go.Proofs.Ytdgfbfkjdflabaa
