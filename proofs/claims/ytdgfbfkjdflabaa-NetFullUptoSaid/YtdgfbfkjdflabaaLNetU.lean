/-
  The code of Send, in pieces.
-/
import Derived.Test.YtdgfbfkjdflabaaOk
import Derived.Test.YtdgfbfkjdflabaaEvE
import Derived.DeepKeys3
import Derived.MapKept
import Derived.ChangeMaps4
import Derived.Test.YtdgfbfkjdflabaaIr
set_option linter.unusedSimpArgs false
set_option linter.unusedVariables false
set_option maxRecDepth 200000
set_option maxHeartbeats 4000000
namespace Go.Proofs.Ytdgfbfkjdflabaa
open Go.Ev
def iSend_r : List Bool := [o_,o_,o_,o_,i_,o_,o_,o_,o_,o_,o_,o_,o_,o_,o_,o_,o_,o_,o_,o_,o_,o_,o_,o_,o_,o_,o_,o_,o_,o_,o_,o_,o_,o_,o_,o_,o_,o_,o_,o_,o_,o_,o_,o_,o_,o_,o_,o_,o_,o_,o_,o_,o_,o_,o_,o_,o_,o_,o_,o_,o_,o_]
def iSend_j1 : List Bool := [i_,o_,o_,o_,o_,i_,o_,o_,o_,o_,o_,i_,i_,i_,o_,o_,o_,o_,o_,o_,o_,o_,o_,o_,o_,o_,o_,o_,o_,o_,o_,o_,o_,o_,o_,o_,o_,o_,o_,o_,o_,o_,o_,o_,o_,o_,o_,o_,o_,o_,o_,o_,o_,o_,o_,o_,o_,o_,o_,o_,o_,o_]
def iSend_k0 : List Bool := [i_,o_,o_,o_,o_,i_,o_,o_,o_,o_,o_,i_,i_,i_,o_,o_,o_,o_,o_,o_,o_,o_,o_,o_,o_,o_,o_,o_,o_,o_,o_,o_,o_,o_,o_,o_,o_,o_,o_,o_,o_,o_,o_,o_,o_,o_,o_,o_,o_,o_,o_,o_,o_,o_,o_,o_,o_,o_,o_,o_,o_,o_]
def iSend_j0 : List Bool := [o_,o_,o_,o_,o_,i_,o_,o_,o_,o_,o_,o_,o_,o_,o_,o_,o_,o_,o_,o_,o_,o_,o_,o_,o_,o_,o_,o_,o_,o_,o_,o_,o_,o_,o_,o_,o_,o_,o_,o_,o_,o_,o_,o_,o_,o_,o_,o_,o_,o_,o_,o_,o_,o_,o_,o_,o_,o_,o_,o_,o_,o_]
abbrev wSend_R (t4 : AV) (h : Heap) : St := ⟨[u_,u_,u_,u_,t4, u_,u_,u_,u_,u_,u_,u_,u_,u_,u_,u_,u_,u_,u_,u_,u_,u_,u_,u_,u_,u_,u_,u_,u_,u_,u_,u_,u_,u_,u_,u_,u_,u_,u_,u_,u_,u_,u_,u_,u_,u_,u_,u_,u_,u_,u_,u_,u_,u_,u_,u_,u_,u_,u_,u_,u_,u_], h⟩
def iSend_b0 : IR :=
  (.seq
   (.reg [] [
     ⟨(some 14), .bin .plain .lss (.t 13) (.t 12), none, []⟩])
   (.seq
    (.cond (.t 14)
     .skip
     (.exit 0 iSend_j0))
    (.seq
     (.block 1 iSend_j1
      (.seq
       (.reg [] [
         ⟨(some 15), .ia 17 (.t 11) (.t 13), none, []⟩,
         ⟨(some 16), .load true 17 (.t 15), none, []⟩,
         ⟨(some 7), .new 0 [(.int .i64 0), (.int .i64 0), (.int .i64 0), (.int .i64 0), (.int .i64 0), (.int .i64 0), (.int .i64 0), (.bool false), (.slice none 0 0), (.slice none 0 0), (.int .i64 0), (.slice none 0 0), (.int .i64 0), (.slice none 0 0), (.slice none 0 0), (.slice none 0 0), (.slice none 0 0)], none, []⟩,
         ⟨none, .store 17 (.t 7) (.t 16), none, []⟩])
       (.seq
        (.reg [] [
          ⟨(some 17), .fa 1 (.t 7), none, []⟩,
          ⟨(some 18), .load false 1 (.t 17), none, []⟩,
          ⟨(some 19), .fa 2 (.t 7), none, []⟩,
          ⟨(some 20), .load false 1 (.t 19), none, []⟩,
          ⟨(some 21), .build [(.int .i64 0), (.int .i64 0)] [(0, 1, (.t 18)), (1, 1, (.t 20))], none, []⟩,
          ⟨(some 8), .new 1 [(.int .i64 0), (.int .i64 0)], none, []⟩,
          ⟨none, .store 2 (.t 8) (.t 21), none, []⟩])
        (.seq
         (.reg [] [
           ⟨(some 23), .load true 17 (.t 7), none, []⟩,
           ⟨(some 24), .qcall n_entry_Write [(.t 23)] [], none, [23]⟩,
           ⟨(some 22), .mv (.t 24), none, []⟩,
           ⟨(some 25), .ext 0 (.t 22), none, []⟩,
           ⟨(some 26), .ext 1 (.t 22), none, []⟩,
           ⟨(some 9), .cn (.t 25), none, []⟩,
           ⟨(some 10), .mv (.t 26), none, []⟩])
         (.seq
          (.seq
           (.reg [] [
             ⟨(some 27), .mv (.t 10), none, []⟩,
             ⟨(some 28), .bin (.iface 38 true) .neq (.t 27) (.k .nilIface), none, []⟩,
             ⟨(some 29), .mv (.t 28), none, []⟩,
             ⟨(some 30), .mv (.t 0), (some (29, false)), []⟩,
             ⟨(some 31), .fa 1 (.t 7), (some (29, false)), []⟩,
             ⟨(some 32), .load false 1 (.t 31), (some (29, false)), []⟩,
             ⟨(some 33), .fa 2 (.t 7), (some (29, false)), []⟩,
             ⟨(some 34), .load false 1 (.t 33), (some (29, false)), []⟩,
             ⟨(some 35), .call n_net_Net_Cut [(.t 30), (.t 32), (.t 34)] [], (some (29, false)), []⟩,
             ⟨(some 36), .pick (.t 29) (.k (.bool true)) (.t 35), none, []⟩,
             ⟨(some 37), .mv (.t 36), none, []⟩,
             ⟨(some 38), .mv (.t 0), (some (37, false)), []⟩,
             ⟨(some 39), .nilc (.t 38), (some (37, false)), []⟩,
             ⟨(some 40), .fa 0 (.t 39), (some (37, false)), []⟩,
             ⟨(some 41), .load false 1 (.t 40), (some (37, false)), []⟩,
             ⟨(some 42), .load true 2 (.t 8), (some (37, false)), []⟩,
             ⟨(some 43), .call n_x2000224 [(.t 41), (.t 42)] [], (some (37, false)), []⟩,
             ⟨(some 44), .len false (.t 43), (some (37, false)), []⟩,
             ⟨(some 45), .bin .plain .geq (.t 44) (.k (.int .i64 64)), (some (37, false)), []⟩,
             ⟨(some 46), .pick (.t 37) (.k (.bool true)) (.t 45), none, []⟩])
           (.cond (.t 46)
            (.seq
             (.reg [] [
               ⟨(some 47), .mv (.t 5), none, []⟩,
               ⟨(some 48), .bin .plain .add (.t 47) (.k (.int .i64 1)), none, []⟩,
               ⟨(some 5), .mv (.t 48), none, []⟩])
             (.exit 1 iSend_j1))
            .skip))
          (.reg [] [
            ⟨(some 49), .mv (.t 0), none, []⟩,
            ⟨(some 50), .nilc (.t 49), none, []⟩,
            ⟨(some 51), .fa 0 (.t 50), none, []⟩,
            ⟨(some 52), .load false 1 (.t 51), none, []⟩,
            ⟨(some 53), .load true 2 (.t 8), none, []⟩,
            ⟨(some 55), .cn (.t 9), none, []⟩,
            ⟨(some 56), .litd 1 1 [(.slice none 0 0)] [(0, (.t 55))], none, []⟩,
            ⟨(some 57), .trap, none, []⟩,
            ⟨(some 54), .ext 0 (.t 57), none, []⟩,
            ⟨(some 58), .app 2 29 1 24 (.t 54) (.t 56), none, []⟩,
            ⟨(some 59), .ext 1 (.t 57), none, []⟩,
            ⟨none, .trap, none, []⟩]))))))
     (.reg [] [
       ⟨(some 60), .bin .plain .add (.t 13) (.k (.int .i64 1)), none, []⟩,
       ⟨(some 13), .mv (.t 60), none, []⟩]))))
def iSend : Ev.Fn := ⟨2, 62, 3,
  (.seq
   (.reg [] [
     ⟨(some 4), .mv (.k (.int .i64 0)), none, []⟩])
   (.seq
    (.reg [] [
      ⟨(some 5), .mv (.k (.int .i64 0)), none, []⟩])
    (.seq
     (.seq
      (.reg [] [
        ⟨(some 11), .cn (.t 1), none, []⟩,
        ⟨(some 12), .len false (.t 11), none, []⟩,
        ⟨(some 13), .mv (.k (.int .i64 0)), none, []⟩])
      (.block 0 iSend_j0
       (.loop iSend_k0 iSend_b0)))
     (.seq
      (.reg [] [
        ⟨(some 61), .mv (.t 5), none, []⟩,
        ⟨(some 4), .mv (.t 61), none, []⟩])
      (.ret iSend_r))))),
  [.tmp 4], [], false, [], false⟩
theorem klSend_r : iSend_r.length = 62 := rfl
theorem ktSend_r (l : List AV) : keepT iSend_r l = keepT [o_,o_,o_,o_,i_,o_,o_,o_,o_,o_,o_,o_,o_,o_,o_,o_,o_,o_,o_,o_,o_,o_,o_,o_,o_,o_,o_,o_,o_,o_,o_,o_,o_,o_,o_,o_,o_,o_,o_,o_,o_,o_,o_,o_,o_,o_,o_,o_,o_,o_,o_,o_,o_,o_,o_,o_,o_,o_,o_,o_,o_,o_] l := rfl
attribute [go_sem] klSend_r ktSend_r
theorem klSend_j1 : iSend_j1.length = 62 := rfl
theorem ktSend_j1 (l : List AV) : keepT iSend_j1 l = keepT [i_,o_,o_,o_,o_,i_,o_,o_,o_,o_,o_,i_,i_,i_,o_,o_,o_,o_,o_,o_,o_,o_,o_,o_,o_,o_,o_,o_,o_,o_,o_,o_,o_,o_,o_,o_,o_,o_,o_,o_,o_,o_,o_,o_,o_,o_,o_,o_,o_,o_,o_,o_,o_,o_,o_,o_,o_,o_,o_,o_,o_,o_] l := rfl
attribute [go_sem] klSend_j1 ktSend_j1
theorem klSend_k0 : iSend_k0.length = 62 := rfl
theorem ktSend_k0 (l : List AV) : keepT iSend_k0 l = keepT [i_,o_,o_,o_,o_,i_,o_,o_,o_,o_,o_,i_,i_,i_,o_,o_,o_,o_,o_,o_,o_,o_,o_,o_,o_,o_,o_,o_,o_,o_,o_,o_,o_,o_,o_,o_,o_,o_,o_,o_,o_,o_,o_,o_,o_,o_,o_,o_,o_,o_,o_,o_,o_,o_,o_,o_,o_,o_,o_,o_,o_,o_] l := rfl
attribute [go_sem] klSend_k0 ktSend_k0
theorem klSend_j0 : iSend_j0.length = 62 := rfl
theorem ktSend_j0 (l : List AV) : keepT iSend_j0 l = keepT [o_,o_,o_,o_,o_,i_,o_,o_,o_,o_,o_,o_,o_,o_,o_,o_,o_,o_,o_,o_,o_,o_,o_,o_,o_,o_,o_,o_,o_,o_,o_,o_,o_,o_,o_,o_,o_,o_,o_,o_,o_,o_,o_,o_,o_,o_,o_,o_,o_,o_,o_,o_,o_,o_,o_,o_,o_,o_,o_,o_,o_,o_] l := rfl
attribute [go_sem] klSend_j0 ktSend_j0
theorem okSend : trFn Try.prog Try.f8 iSend = some iSend := by kernel_rfl
end Go.Proofs.Ytdgfbfkjdflabaa
namespace Go.Proofs.Ytdgfbfkjdflabaa
open Go.Ev
theorem seg_ok {P : Program} {G : Cf} {tab : Nat → Option Ev.Fn} (ht : TabOk P tab) (hX : XOk P G) (hg : G.gf = true → ∀ g, G.G g = []) {code : Code} {an ir : IR} {x : Cx} {st : St} {a : Act} {ns : Nat} {e : Ex} {st' : St} {Q : Exit → Act → World → Prop}
  (htr : trIR P code an = some ir) (hs : RelS G x st a) (he : app tab G ns [] (ex tab G ns ir st) = some (e, st'))
  (hQ : ∀ x' a', RelS G x' st' a' → SStep ns x st.h x' st'.h → a'.defers = a.defers → Q (exM e) a' x'.w) : code.wp P Q a x.w := by
 have he' : evIR G LoopL (Ev tab G) ns ir st = some (e, st') := he
 obtain ⟨n0, hn⟩ := cont_ir ns ir he'
 exact evIR_ok (evN_ok ht hX hg n0) n0 ns code an ir htr hs (hn n0 (Nat.le_refl _)) hQ
def onlyN (G : Act → World → Prop) : Exit → Act → World → Prop
 | .normal, a, w => G a w
 | _, _, _ => False
theorem onlyN_out {G : Act → World → Prop} : ¬ LetsOut (onlyN G) := fun ⟨_, _, h⟩ => h
theorem wp_onlyN {P : Program} {o : Oper} {a : Act} {w : World} {G : Act → World → Prop} {K K' : Act → World → Prop} {Q : Exit → Act → World → Prop} (h : ∀ a w, K a w → K' a w) (hh : o.wp P a w K (onlyN G)) : o.wp P a w K' Q := by
 unfold Oper.wp at *
 generalize (execOp a.eval o).run P w = r at *
 cases r with
 | ok n w' =>
  cases n <;> simp only [Oper.upon] at hh ⊢ <;>
   first
    | exact h _ _ hh
    | exact Calls.mono hh (fun e w'' he => by
      cases e with
      | returned v => exact h _ _ he
      | panicked c => exact he.elim
      | outgrown => exact (onlyN_out he).elim)
    | exact Rows.mono hh (fun _ _ he => h _ _ he)
 | halt x w' => cases x <;> simp only [Oper.upon] at hh ⊢ <;> exact hh.elim
theorem trIR_seq {P : Program} {c : Code} {x y x' y' : IR} (h : trIR P c (.seq x y) = some (.seq x' y')) : ∃ a b, c = .seq a b ∧ trIR P a x = some x' ∧ trIR P b y = some y' := by
 cases c <;> simp only [trIR] at h <;> try (simp at h; done)
 rename_i a b
 split at h
 ·rename_i x1 y1 h1 h2
  injection h with h
  injection h with h3 h4
  subst h3 h4
  exact ⟨a, b, rfl, h1, h2⟩
 ·simp at h
theorem trIR_cond {P : Program} {c : Code} {g g' : O} {x y x' y' : IR} (h : trIR P c (.cond g x y) = some (.cond g' x' y')) : ∃ k a b, c = .cond k a b ∧ g' = trO k ∧ trIR P a x = some x' ∧ trIR P b y = some y' := by
 cases c <;> simp only [trIR] at h <;> try (simp at h; done)
 rename_i k a b
 split at h
 ·rename_i x1 y1 h1 h2
  injection h with h
  injection h with h0 h3 h4
  subst h0 h3 h4
  exact ⟨k, a, b, rfl, rfl, h1, h2⟩
 ·simp at h
theorem trIR_block {P : Program} {c : Code} {i i' : Nat} {k k' : List Bool} {x x' : IR} (h : trIR P c (.block i k x) = some (.block i' k' x')) : ∃ a, c = .block i' a ∧ k' = k ∧ trIR P a x = some x' := by
 cases c <;> simp only [trIR] at h <;> try (simp at h; done)
 rename_i j a
 obtain ⟨x1, h1, h2⟩ := Option.map_eq_some_iff.1 h
 injection h2 with h3 h4 h5
 subst h3 h4 h5
 exact ⟨a, rfl, rfl, h1⟩
theorem trIR_loop {P : Program} {c : Code} {k k' : List Bool} {x x' : IR} (h : trIR P c (.loop k x) = some (.loop k' x')) : ∃ a, c = .loop a ∧ k' = k ∧ trIR P a x = some x' := by
 cases c <;> simp only [trIR] at h <;> try (simp at h; done)
 rename_i a
 obtain ⟨x1, h1, h2⟩ := Option.map_eq_some_iff.1 h
 injection h2 with h3 h4
 subst h3 h4
 exact ⟨a, rfl, rfl, h1⟩
theorem trIR_reg {P : Program} {c : Code} {p p' : List (Nat × Nat)} {l l' : List Opr} (h : trIR P c (.reg p l) = some (.reg p' l')) : ∃ id ops draw, c = .region id ops draw ∧ p' = p ∧ trReg P ops draw p l = some l' := by
 cases c <;> simp only [trIR] at h <;> try (simp at h; done)
 rename_i id ops draw
 obtain ⟨x1, h1, h2⟩ := Option.map_eq_some_iff.1 h
 injection h2 with h3 h4
 subst h3 h4
 exact ⟨id, ops, draw, rfl, rfl, h1⟩
theorem trIR_exit {P : Program} {c : Code} {i i' : Nat} {k k' : List Bool} (h : trIR P c (.exit i k) = some (.exit i' k')) : c = .exit i' ∧ k' = k := by
 cases c <;> simp only [trIR] at h <;> try (simp at h; done)
 injection h with h
 injection h with h1 h2
 subst h1 h2
 exact ⟨rfl, rfl⟩
def cAt : Code → List Nat → Code
 | c, [] => c
 | .seq a b, i :: p => if i = 0 then cAt a p else cAt b p
 | .cond _ a b, i :: p => if i = 0 then cAt a p else cAt b p
 | .block _ a, _ :: p => cAt a p
 | .loop a, _ :: p => cAt a p
 | c, _ => c
def rOps : Code → Array Oper
 | .region _ ops _ => ops
 | _ => #[]
theorem region_any {P : Program} {G : Cf} {F : FnEv} {x : Cx} {st : St} {a : Act} (hF : FnsOk P G F) {ops : Array Oper} {pairs : List (Nat × Nat)} {an qs : List Opr} (htr : trReg P ops true pairs an = some qs) (hs : RelS G x st a) (hp : okPairs G F pairs qs st = true) {st' : St} (he : evOps G F qs st = some st')
  {Q : Exit → Act → World → Prop} (hQ : ∀ x' a', RelS G x' st' a' → Step (fun _ => True) x st.h x' st'.h → a'.defers = a.defers → Q .normal a' x'.w) :
  P.follows .mixedOrders = true ∧ masksOk ops (Region.before ops).toList = true ∧ wpAny P .any ops Q ops.size (Array.replicate ops.size false) a { x.w with drawn := x.w.drawn + 1 } := by
 unfold trReg at htr
 split at htr
 ·rename_i qs' htr'
  split at htr
  ·rename_i hc
   simp only [Option.some.injEq] at htr
   subst htr
   obtain ⟨hlen, hat⟩ := trOprs_at htr'
   have hlen' : qs'.length = ops.size := by simpa using hlen
   have hop : ∀ j, j < ops.size → ∃ o an, ops[j]? = some o ∧ trOpr P ops o an = some (opAt qs' j) := fun j hj => by
    have ho : ops[j]? = some ops[j] := Array.getElem?_eq_getElem hj
    obtain ⟨an', h⟩ := hat j ops[j] (by simp)
    exact ⟨_, an', ho, h⟩
   obtain ⟨pn, hpC, hpI, hpp⟩ := okPairs_pn hp
   have hgood := good_of_ops (pn := pn) (op := opAt qs') qs' 0 st st' (fun k => (feet G F qs' st).getD k ([], [])) (fun k hk => by simp [opAt, List.getD, hk]) (fun k hk => by simp) hpC (fun p h1 _ => by rw [Nat.sub_zero]; exact hpI p h1) he
   rw [hlen'] at hgood
   simp only [Bool.not_true, Bool.false_or, Bool.and_eq_true] at hc
   obtain ⟨⟨hmix, hmask⟩, hpairs⟩ := hc
   refine ⟨hmix, hmask, ?_⟩
   have hst0 := Step.sameHeap (x := x) (h := st.h) (w' := { x.w with drawn := x.w.drawn + 1 }) rfl rfl rfl rfl
   have hi0 := hs.inv.sameHeap (w' := { x.w with drawn := x.w.drawn + 1 }) rfl rfl rfl rfl
   have hs0 := hs.step' hi0 hst0
   have hrest : rest ops.size (Array.replicate ops.size false) = List.range' 0 ops.size := by
    rw [← List.range_eq_range']
    exact List.filter_eq_self.2 fun k hk => by
     have := List.mem_range.1 hk
     simp [Array.getD_eq_getD_getElem?, this]
   exact any_ok hF hmask (op := opAt qs') (T := fun k => (feet G F qs' st).getD k ([], [])) hop (fun i j hij hj hb => by
    have h1 := List.all_eq_true.1 (List.all_eq_true.1 hpairs j (List.mem_range.2 hj)) i (List.mem_range.2 hij)
    rw [hb] at h1
    simp only [Bool.false_or, Bool.and_eq_true, Bool.or_eq_true] at h1
    refine ⟨h1.1, ?_⟩
    rcases h1.2 with h2 | h2
    ·exact .inl (freePair_disj (G := G) (F := F) (s := st) h2)
    ·exact hpp i j hij (by simpa using h2)) (fun x' a' hs' hst' hd' => hQ x' a' hs' (hst0.trans hst') hd') ops.size _ (by rw [hrest]; simp) ⟨by simp, fun j o e _ hl _ _ => by
     by_cases hj : j < ops.size <;> simp [Array.getD_eq_getD_getElem?, hj] at hl⟩ (by rw [hrest]; exact hgood) hs0 (Step.refl _ _ _) rfl
  ·simp at htr
 ·simp at htr
theorem reg_of {G : Cf} {tab : Nat → Option Ev.Fn} {ns : Nat} {pairs : List (Nat × Nat)} {qs : List Opr} {st st' : St} (h : app tab G ns [] (ex tab G ns (.reg pairs qs) st) = some (.normal, st')) : ∃ n, okPairs G (evN tab G n) pairs qs st = true ∧ evOps G (evN tab G n) qs st = some st' := by
 have he' : evIR G LoopL (Ev tab G) ns (.reg pairs qs) st = some (.normal, st') := h
 obtain ⟨n0, hn⟩ := cont_ir ns _ he'
 have := hn n0 (Nat.le_refl _)
 simp only [evIR] at this
 split at this
 ·rename_i hp
  split at this
  ·rename_i s1 h1
   simp only [Option.some.injEq, Prod.mk.injEq, true_and] at this
   subst this
   exact ⟨n0, hp, h1⟩
  ·simp at this
 ·simp at this
def rId : Code → Nat
 | .region id _ _ => id
 | _ => 0
end Go.Proofs.Ytdgfbfkjdflabaa
namespace Go.Proofs.Ytdgfbfkjdflabaa
open Go.Ev
def extL (k : Nat) (lp : Array Bool) : Array Bool := lp ++ Array.replicate k false
theorem extL_getD (k : Nat) (lp : Array Bool) (i : Nat) : (extL k lp).getD i false = lp.getD i false := by
 simp only [extL, Array.getD_eq_getD_getElem?]
 by_cases c : i < lp.size
 ·rw [Array.getElem?_append_left c]
 ·rw [Array.getElem?_append_right (by omega), Array.getElem?_eq_none (by omega : lp.size ≤ i)]
  by_cases c2 : i - lp.size < k
  ·simp [c2]
  ·simp [c2]
theorem extL_lt {k : Nat} {lp : Array Bool} {i : Nat} (h : i < lp.size) : (extL k lp).getD i true = lp.getD i true := by
 simp only [extL, Array.getD_eq_getD_getElem?]
 rw [Array.getElem?_append_left h]
theorem extL_set {k : Nat} {lp : Array Bool} {i : Nat} (h : i < lp.size) : (extL k lp).setIfInBounds i true = extL k (lp.setIfInBounds i true) := by
 apply Array.ext
 ·simp [extL]
 ·intro j h1 h2
  simp only [extL]
  rw [Array.getElem_setIfInBounds (by simpa [extL] using h1)]
  simp only [Array.getElem_append, Array.size_setIfInBounds]
  split
  ·rename_i c
   subst c
   rw [dif_pos h]
   simp
  ·rename_i c
   split
   ·rename_i c2
    rw [Array.getElem_setIfInBounds c2, if_neg c]
   ·rfl
theorem rest_nil {n : Nat} {lp : Array Bool} (hs : lp.size = n) (h : rest n lp = []) : lp = Array.replicate n true := by
 apply Array.ext
 ·simpa using hs
 ·intro i h1 h2
  have h3 := List.filter_eq_nil_iff.1 h i (List.mem_range.2 (by omega))
  simp only [Array.getD_eq_getD_getElem?, Array.getElem?_eq_getElem h1, Option.getD_some] at h3
  simpa using h3
theorem any_prefix {P : Program} {ops : Array Oper} {M : List Nat} (hm : masksOk ops M = true) {n : Nat} (hn : n ≤ ops.size) (hall : ∀ (i : Nat) (o : Oper), n ≤ i → ops[i]? = some o → (∃ e ∈ o.after, n ≤ e.on ∧ Region.binds .any e = true) ∨ ∀ j, j < n → ∃ e ∈ o.after, e.on = j ∧ Region.binds .any e = true)
  (hg : ∀ (i : Nat) (p : Oper), ops[i]? = some p → p.guard = none) {G : Act → World → Prop} {Q : Exit → Act → World → Prop}
  (hst : ∀ a w, G a w → wpAny P .any ops Q (ops.size - n) (extL (ops.size - n) (Array.replicate n true)) a w) :
  ∀ (fuel : Nat) (lp : Array Bool) (a : Act) (w : World), lp.size = n → Down ops (extL (ops.size - n) lp) → (rest n lp).length = fuel → wpAny P .any (ops.extract 0 n) (onlyN G) fuel lp a w → wpAny P .any ops Q (fuel + (ops.size - n)) (extL (ops.size - n) lp) a w := by
 have hw : ∀ (p : Oper) (f : Nat → Option Bool), p.guard = none → Region.wanted p f = true := fun p f hp => by
  unfold Region.wanted
  rw [hp]
 have hget : ∀ i, i < n → (ops.extract 0 n)[i]? = ops[i]? := fun i hi => by
  rw [Array.getElem?_extract]
  simp [hi, Nat.min_eq_left hn]
 have hsz : (ops.extract 0 n).size = n := by simp [Nat.min_eq_left hn]
 intro fuel
 induction fuel with
 | zero =>
  intro lp a w hs hd hr h
  have hnil := rest_nil hs (List.eq_nil_of_length_eq_zero hr)
  rw [Nat.zero_add, hnil]
  exact hst a w h.2
 | succ fuel ih =>
  intro lp a w hs hd hr h
  rw [Nat.succ_add]
  have hsome : ∃ j, j < n ∧ lp.getD j false = false := by
   cases hq : rest n lp with
   | nil => rw [hq] at hr; cases hr
   | cons j r =>
    have hj : j ∈ rest n lp := by rw [hq]; simp
    obtain ⟨h1, h2⟩ := List.mem_filter.1 hj
    have hjn := List.mem_range.1 h1
    refine ⟨j, hjn, ?_⟩
    have : j < lp.size := by omega
    rw [Array.getD_eq_getD_getElem?, Array.getElem?_eq_getElem this] at h2 ⊢
    simpa using h2
  refine ⟨fun hn' => ?_, fun i hi => ?_⟩
  ·obtain ⟨j, h1, h2⟩ := hsome
   have h3 := ready_nil hm hd hn'
   have h4 := List.filter_eq_nil_iff.1 h3 j (List.mem_range.2 (by omega))
   rw [extL_lt (by omega)] at h4
   have : j < lp.size := by omega
   rw [Array.getD_eq_getD_getElem?, Array.getElem?_eq_getElem this] at h2 h4
   simp at h2 h4
   rw [h2] at h4
   cases h4
  ·obtain ⟨h1, oi, hoi, ha⟩ := ready_mem hi
   have hin : i < n := by
    refine Nat.lt_of_not_le fun hge => ?_
    obtain ⟨j, h2, h3⟩ := hsome
    rcases hall i oi hge hoi with ⟨e, e1, e2, e3⟩ | hall
    ·have := ha e e1 e3
     rw [extL_getD, Array.getD_eq_getD_getElem?, Array.getElem?_eq_none (by omega)] at this
     cases this
    ·obtain ⟨e, e1, e2, e3⟩ := hall j h2
     have := ha e e1 e3
     rw [e2, extL_getD, h3] at this
     cases this
   have hil : i < lp.size := by omega
   obtain ⟨h2a, h2b⟩ := List.mem_filter.1 h1
   rw [extL_lt hil] at h2b
   have hri : i ∈ rest n lp := List.mem_filter.2 ⟨List.mem_range.2 hin, h2b⟩
   have hrp : i ∈ Region.ready .any (ops.extract 0 n) lp := by
    unfold Region.ready
    refine List.mem_filter.2 ⟨List.mem_range.2 (by rw [hsz]; exact hin), ?_⟩
    rw [hget i hin, hoi]
    simp only [Bool.and_eq_true, Option.map_some, Option.getD_some]
    refine ⟨h2b, ?_⟩
    rw [Array.all_eq_true']
    intro e he
    cases hb : Region.binds .any e with
    | false => rfl
    | true =>
     have := ha e he hb
     rw [extL_getD] at this
     simpa using this
   have h5 := h.2 i hrp
   unfold wpOp at h5 ⊢
   rw [hget i hin, hoi] at h5
   rw [hoi]
   simp only [hw oi _ (hg i oi hoi), if_true] at h5 ⊢
   have h6 := h5.resolve_right fun x => onlyN_out x.2
   refine .inl (wp_onlyN (fun a' w' hk => ?_) h6)
   rw [extL_set hil]
   obtain ⟨r1, r2, hrr⟩ := List.append_of_mem hri
   obtain ⟨h7, _, _⟩ := rest_set hs hrr
   refine ih _ a' w' (by simpa using hs) ?_ ?_ hk
   ·rw [← extL_set hil]
    exact hd.set hoi ha
   ·rw [h7]
    rw [hrr] at hr
    simp at hr ⊢
    omega
end Go.Proofs.Ytdgfbfkjdflabaa
namespace Go.Proofs.Ytdgfbfkjdflabaa
open Go.Ev
open Go.WideShapes
theorem kLaw : WideMaps.KeyLaw Try.prog 60 := deep_law (m := 3) (by decide) (by kernel_rfl) (by kernel_rfl) (by kernel_rfl)
theorem kType : Try.prog.keyType 60 = true := by kernel_rfl
theorem kCells : Try.prog.cellsOf 60 = 2 ∧ Try.prog.cellsOf 3 = 1 := ⟨by kernel_rfl, by kernel_rfl⟩
theorem wf_of {n : Int} (h : inI n = true) : (Lit.int .i64 n).wf = true := by
 simp only [inI, decide_eq_true_eq] at h
 simp [Lit.wf, IntKind.has, IntKind.min, IntKind.max, IntKind.signed, IntKind.bits]
 omega
theorem formedK (f t : Int) : (lnKey f t).formed Try.prog 60 = true := by
 simp [lnKey, Value.formed, Try.underlying60, kCells.1]
theorem key_of (f t : Int) (hf : inI f = true) (ht : inI t = true) : ∃ l, keyOf Try.prog 60 (lnKey f t) = some l := by
 have h1 := wf_of hf
 have h2 := wf_of ht
 unfold keyOf
 rw [Try.underlying60, kType, formedK]
 obtain ⟨n, hn⟩ : ∃ n, Try.prog.types.size + 1 = n + 2 := ⟨Try.prog.types.size - 1, by kernel_rfl⟩
 rw [hn]
 simp [Program.keyLits, Try.underlying60, Try.underlying3, kCells.1, kCells.2, lnKey, Value.cells, h1, h2, List.range_succ]
end Go.Proofs.Ytdgfbfkjdflabaa
namespace Go.Proofs.Ytdgfbfkjdflabaa
open Go.Ev
open Go.WideShapes Go.ChangeMaps
theorem zero64 (w : World) : (zeroValue 64).run Try.prog w = .ok (.slice none 0 0) w := by kernel_rfl
theorem zero4 (w : World) : (zeroValue 4).run Try.prog w = .ok (.bool false) w := by kernel_rfl
theorem und56 : Try.prog.underlying 56 = some (.map 60 64) := by kernel_rfl
theorem und57 : Try.prog.underlying 57 = some (.map 60 4) := by kernel_rfl
theorem run_look {mt et : TypeId} {z : Value} {w : World} {b : Nat} {es : Array MapEntry} {clock : Nat} {k : Value} (hm : Try.prog.underlying mt = some (.map 60 et)) (hz : (zeroValue et).run Try.prog w = .ok z w) (hb : w.heap[b]? = some (.map es clock))
  (hes : ∀ e ∈ es.toList, ∃ l, keyOf Try.prog 60 e.key = some l) (hk : ∃ l, keyOf Try.prog 60 k = some l) :
  ((Instr.lookup mt (.map (some b)) k false).run Try.prog w = .ok z w ∧ ∀ e ∈ es.toList, e.key ≠ k) ∨ ∃ e ∈ es.toList, e.key = k ∧ (Instr.lookup mt (.map (some b)) k false).run Try.prog w = .ok e.val w := by
 obtain ⟨lk, hk⟩ := hk
 rcases kLaw.find w hk es.toList hes with ⟨h1, h2⟩ | ⟨j, e, h1, h2, h3⟩
 ·exact .inl ⟨by simp [Instr.lookup, run_underlying hm, MapKept.run_getObj_map hb, kLaw.check w es.isEmpty hk, h1, hz, Result.andThen], h2⟩
 ·exact .inr ⟨e, List.mem_of_getElem? h2, h3, by simp [Instr.lookup, run_underlying hm, MapKept.run_getObj_map hb, kLaw.check w es.isEmpty hk, h1, Result.andThen]⟩
theorem run_upd {mt et : TypeId} {v : Value} {w : World} {b : Nat} {es : Array MapEntry} {clock : Nat} {k : Value} (hm : Try.prog.underlying mt = some (.map 60 et)) (hb : w.heap[b]? = some (.map es clock))
  (hes : ∀ e ∈ es.toList, ∃ l, keyOf Try.prog 60 e.key = some l) (hk : ∃ l, keyOf Try.prog 60 k = some l) :
  ((Instr.mapUpdate mt (.map (some b)) k v).run Try.prog w = .ok () (setBlock w b (.map (es.push { key := k, val := v, born := clock }) (clock + 1))) ∧ ∀ e ∈ es.toList, e.key ≠ k) ∨
  ∃ j e, es.toList[j]? = some e ∧ e.key = k ∧ (Instr.mapUpdate mt (.map (some b)) k v).run Try.prog w = .ok () (setBlock w b (.map (es.modify j fun e => { e with key := k, val := v }) clock)) := by
 obtain ⟨lk, hk⟩ := hk
 rcases kLaw.find w hk es.toList hes with ⟨h1, h2⟩ | ⟨j, e, h1, h2, h3⟩
 ·exact .inl ⟨by simp [Instr.mapUpdate, run_underlying hm, MapKept.run_getObj_map hb, kLaw.check w false hk, h1, MapKept.run_setObj_map _ hb, Result.andThen, setBlock], h2⟩
 ·have hj : es[j]? = some e := by simpa using h2
  refine .inr ⟨j, e, h2, h3, ?_⟩
  simp [Instr.mapUpdate, run_underlying hm, MapKept.run_getObj_map hb, kLaw.check w false hk, h1, hj, h3, kLaw.stays w hk, MapKept.run_setObj_map _ hb, Result.andThen, setBlock]
theorem line_in {f t : Int} (h : isLine f t = true) : inI f = true ∧ inI t = true := by
 simp only [isLine, decide_eq_true_eq] at h
 simp only [inI, decide_eq_true_eq]
 omega
theorem keys_of {es : List MapEntry} {clock : Nat} {has : Nat → Prop} {val : Nat → Value → Prop} (h : Ents es clock has val) : ∀ e ∈ es, ∃ l, keyOf Try.prog 60 e.key = some l := fun e he => by
 obtain ⟨f, t, h1, h2, _⟩ := h.key e he
 rw [h2]
 exact key_of f t (line_in h1).1 (line_in h1).2
theorem lnKey_inj {f t f' t' : Int} (h : lnKey f t = lnKey f' t') : f = f' ∧ t = t' := by
 simp only [lnKey, Value.agg.injEq] at h
 simpa using h
theorem lnIx_inj {f t f' t' : Int} (h1 : isLine f t = true) (h2 : isLine f' t' = true) (h : lnIx f t = lnIx f' t') : f = f' ∧ t = t' := by
 simp only [isLine, decide_eq_true_eq] at h1 h2
 simp only [lnIx] at h
 omega
theorem key_inv {x : Cx} {h : Heap} {f t : Int} {v : Value} (hr : RelV x h (.agg [.s (.int .i64 f), .s (.int .i64 t)]) v) : v = lnKey f t := by
 cases hr with
 | agg l vs hl hr =>
  match vs, hl with
  | [a, b], _ =>
   have h1 := (hr 0 _ a rfl rfl).s_inv
   have h2 := (hr 1 _ b rfl rfl).s_inv
   rw [h1, h2]
   rfl
theorem mp_inv {x : Cx} {h : Heap} {id : Nat} {v : Value} {d : Big} (hr : RelV x h (.mp id) v) (hg : getO h id = some (.big d)) : v = .map (some (x.φ id)) := by
 cases hr with
 | mp _ _ _ hr => exact hr d hg
theorem bytes_get (b : UInt8) : [C.sc (.int .u8 (b.toNat : Int))] = e1 b := rfl
theorem row_rep {w : World} {S : Nat → Nat → Prop} {Ω : Nat → Prop} {v : Value} {ms : List (List UInt8)} (h : RowAlone w S Ω v ms) : Rep w S (.sl (eBs ms)) v := by
 obtain ⟨b, cap, arr, e, rfl, k2, k3, k4, k5, k6, k7, k8, k9, k10⟩ := h
 by_cases hn : ms = []
 ·subst hn
  exact .nil _ _ (by simp)
 ·have hne : eBs ms ≠ [] := fun h => hn (by simpa [eBs] using h)
  have := Rep.sl (w := w) (S := S) (eBs ms) 1 b 0 cap (fun j => arr.getD j undef) hne (fun el hel => by
   simp only [eBs, List.mem_map] at hel
   obtain ⟨m, _, rfl⟩ := hel
   rfl) (by rw [eBs_len]; exact k5) (fun j hj => by
   rw [eBs_len, Nat.mul_one] at hj
   rw [Nat.zero_add]
   refine ⟨k8 j hj, ?_⟩
   have : j < arr.size := by omega
   simp [World.cell?, k3, Array.getD, this]) (fun i k el c h1 h2 => by
   have hi : i < ms.length := by
    have := (List.getElem?_eq_some_iff.1 h1).1
    rwa [eBs_len] at this
   rw [eBs_get hi] at h1
   injection h1 with h1
   subst h1
   match k, h2 with
   | 0, h2 =>
    simp only [List.getElem?_cons_zero, Option.some.injEq] at h2
    subst h2
    obtain ⟨u, hu, hr⟩ := k10 i (ms.getD i []) (by simp [List.getD, hi])
    simp only [Nat.mul_one, Nat.add_zero]
    rw [show arr.getD i undef = u by simp [Array.getD_eq_getD_getElem?, hu]]
    exact hr
   | k + 1, h2 => simp at h2)
  rwa [eBs_len] at this
theorem lines_of {x : Cx} {h : Heap} {id : Nat} {l : Nat → Option (List (List UInt8))} (hi : Inv G0 x h) (hg : getO h id = some (.big (.lines l))) : LinesAt l x.w x.S (x.φ id) (x.Ω id) := by
 have := hi.obj id _ hg
 have h2 : x.bg.rel (.lines l) x.w x.S (x.φ id) (x.Ω id) := this
 rw [hi.bgo] at h2
 exact h2
theorem flags_of {x : Cx} {h : Heap} {id : Nat} {g : Nat → Bool} (hi : Inv G0 x h) (hg : getO h id = some (.big (.flags g))) : FlagsAt g x.w (x.φ id) := by
 have := hi.obj id _ hg
 have h2 : x.bg.rel (.flags g) x.w x.S (x.φ id) (x.Ω id) := this
 rw [hi.bgo] at h2
 exact h2
theorem look_lines (l : Nat → Option (List (List UInt8))) (f t : Int) (hf : inI f = true) (ht : inI t = true) : PContract Try.prog G0 224 [.mp 0, .agg [.s (.int .i64 f), .s (.int .i64 t)]] [.big (.lines l)] [.sl true (eBs (if isLine f t = true then (l (lnIx f t)).getD [] else []))] [.big (.lines l)] := by
 intro x vals hB hi hal har hlv
 match vals, hal with
 | [v0, v1], _ =>
  obtain rfl := mp_inv (har 0 _ v0 rfl rfl) (d := .lines l) rfl
  obtain rfl := key_inv (har 1 _ v1 rfl rfl)
  obtain ⟨es, clock, k1, k3, k4⟩ := lines_of (id := 0) hi rfl
  have done : ∀ u : Value, (Instr.lookup 56 (.map (some (x.φ 0))) (lnKey f t) false).run Try.prog x.w = .ok u x.w → Rep x.w x.S (.sl (eBs (if isLine f t = true then (l (lnIx f t)).getD [] else []))) u → ∃ us x', (pInstr 224 [.map (some (x.φ 0)), lnKey f t]).run Try.prog x.w = .ok (mkRes us) x'.w ∧ Post G0 x [.big (.lines l)] [.sl true (eBs (if isLine f t = true then (l (lnIx f t)).getD [] else []))] [.big (.lines l)] x' us := fun u hr hrep =>
   ⟨[u], x, hr, hi, Step.refl _ _ _, rfl, fun i a v h1 h2 => by
    cases i with
    | zero => simp at h1 h2; subst h1 h2; exact .sl true _ _ (hrep.mono fun b o hS => ⟨⟨hS, .inl rfl⟩, rfl⟩)
    | succ i => simp at h1, fun id hid => by simp [refsL, AV.refs] at hid⟩
  rcases run_look und56 (zero64 x.w) k1 (keys_of k3) (key_of f t hf ht) with ⟨h1, h2⟩ | ⟨e, he, h2, h1⟩
  ·refine done _ h1 ?_
   have : (if isLine f t = true then (l (lnIx f t)).getD [] else []) = [] := by
    split
    ·rename_i hl
     cases hx : l (lnIx f t) with
     | none => rfl
     | some ms =>
      obtain ⟨e, he, h3⟩ := k3.all f t hl (by rw [hx]; rfl)
      exact absurd h3 (h2 e he)
    ·rfl
   rw [this]
   exact .nil _ _ (fun _ => rfl)
  ·refine done _ h1 ?_
   obtain ⟨f', t', q1, q2, q3, q4⟩ := k3.key e he
   obtain ⟨rfl, rfl⟩ := lnKey_inj (h2.symm.trans q2)
   rw [if_pos q1]
   exact row_rep q4
theorem look_flags (g : Nat → Bool) (f t : Int) (hf : inI f = true) (ht : inI t = true) : PContract Try.prog G0 228 [.mp 0, .agg [.s (.int .i64 f), .s (.int .i64 t)]] [.big (.flags g)] [.s (.bool (isLine f t && g (lnIx f t)))] [.big (.flags g)] := by
 intro x vals hB hi hal har hlv
 match vals, hal with
 | [v0, v1], _ =>
  obtain rfl := mp_inv (har 0 _ v0 rfl rfl) (d := .flags g) rfl
  obtain rfl := key_inv (har 1 _ v1 rfl rfl)
  obtain ⟨es, clock, k1, k3, k4, _, _⟩ := flags_of (id := 0) hi rfl
  have done : (Instr.lookup 57 (.map (some (x.φ 0))) (lnKey f t) false).run Try.prog x.w = .ok (.bool (isLine f t && g (lnIx f t))) x.w → ∃ us x', (pInstr 228 [.map (some (x.φ 0)), lnKey f t]).run Try.prog x.w = .ok (mkRes us) x'.w ∧ Post G0 x [.big (.flags g)] [.s (.bool (isLine f t && g (lnIx f t)))] [.big (.flags g)] x' us := fun hr =>
   ⟨[_], x, hr, hi, Step.refl _ _ _, rfl, fun i a v h1 h2 => by
    cases i with
    | zero => simp at h1 h2; subst h1 h2; exact .s _
    | succ i => simp at h1, fun id hid => by simp [refsL, AV.refs] at hid⟩
  rcases run_look und57 (zero4 x.w) k1 (fun e he => by
   obtain ⟨f', t', q1, q2, _⟩ := k3 e he
   rw [q2]
   exact key_of f' t' (line_in q1).1 (line_in q1).2) (key_of f t hf ht) with ⟨h1, h2⟩ | ⟨e, he, h2, h1⟩
  ·refine done ?_
   rw [h1]
   have : (isLine f t && g (lnIx f t)) = false := by
    cases hl : isLine f t with
    | false => rfl
    | true =>
     cases hg : g (lnIx f t) with
     | false => rfl
     | true =>
      obtain ⟨e, he, h3⟩ := k4 f t hl hg
      exact absurd h3 (h2 e he)
   rw [this]
  ·refine done ?_
   obtain ⟨f', t', q1, q2, q3⟩ := k3 e he
   obtain ⟨rfl, rfl⟩ := lnKey_inj (h2.symm.trans q2)
   rw [h1, q1, q3]
   rfl
end Go.Proofs.Ytdgfbfkjdflabaa
namespace Go.Proofs.Ytdgfbfkjdflabaa
open Go.Ev
open Go.WideShapes Go.ChangeMaps
theorem set_size (w : World) (b : Nat) (o : Go.Obj) : (setBlock w b o).heap.size = w.heap.size := by simp [setBlock]
theorem set_old (w : World) (b : Nat) (o : Go.Obj) {c : Nat} (h : c ≠ b) : (setBlock w b o).heap[c]? = w.heap[c]? := by
 simp only [setBlock]
 rw [Array.getElem?_setIfInBounds_ne (Ne.symm h)]
theorem set_new {w : World} {b : Nat} {o o' : Go.Obj} (h : w.heap[b]? = some o') : (setBlock w b o).heap[b]? = some o := by
 have := (Array.getElem?_eq_some_iff.1 h).1
 simp [setBlock, this]
theorem nf_set {N : Nat} {w : World} {b : Nat} {es es' : Array MapEntry} {c c' : Nat} (h : w.heap[b]? = some (.map es c)) (hn : NF N w) : NF N (setBlock w b (.map es' c')) := fun k o hk hc => by
 by_cases he : k = b
 ·subst he
  simp [World.cell?, set_new h] at hc
 ·simp only [World.cell?, World.frozen?, set_old w b _ he] at hc ⊢
  exact hn k o hk hc
theorem big_set {x : Cx} {h : Heap} {id : Nat} {d d' : Big} {es es' : Array MapEntry} {c c' : Nat} (hi : Inv G0 x h) (hg : getO h id = some (.big d)) (hb : x.w.heap[x.φ id]? = some (.map es c))
  (hr : netRel.rel d' (setBlock x.w (x.φ id) (.map es' c')) x.S (x.φ id) (x.Ω id)) : Inv G0 { x with w := setBlock x.w (x.φ id) (.map es' c') } (h.set id (some (.big d'))) ∧ Step (fun _ => True) x h { x with w := setBlock x.w (x.φ id) (.map es' c') } (h.set id (some (.big d'))) := by
 have hlt := getO_lt (by rw [hg]; rfl : (getO h id).isSome)
 have hget : ∀ j, getO (h.set id (some (.big d'))) j = if j = id then some (.big d') else getO h j := fun j => getO_set hlt j
 have hS : ∀ b o, x.S b o → b ≠ x.φ id := fun b o hS he => hi.own id _ hg trivial o (he ▸ hS)
 have hext : Ext x { x with w := setBlock x.w (x.φ id) (.map es' c') } := ⟨rfl, rfl, fun b o hs => ⟨hs, by simp [World.cell?, set_old _ _ _ (hS b o hs)]⟩⟩
 have hold : ∀ j o, getO (h.set id (some (.big d'))) j = some o → j ≠ id → getO h j = some o := fun j o hj hne => by rwa [hget, if_neg hne] at hj
 have hst : Step (fun _ => True) x h { x with w := setBlock x.w (x.φ id) (.map es' c') } (h.set id (some (.big d'))) := {
  ext := hext
  size := Nat.le_of_eq (set_size _ _ _).symm
  evo := fun j _ hj => by
   by_cases he : j = id
   ·subst he
    refine ⟨⟨fun cs hc => ?_, fun e s o f l hc => ?_, fun d2 hc => ⟨⟨d, hg⟩, rfl⟩⟩, by rw [hget, if_pos rfl]; rfl⟩ <;> (rw [hget, if_pos rfl] at hc; simp at hc)
   ·exact ⟨.same (by rw [hget, if_neg he]) rfl rfl, by rw [hget, if_neg he]; exact hj⟩
  frame := fun b hb hm _ => set_old _ _ _ fun he => hm id _ hg trivial he.symm
  sgrow := fun b o hs => .inl hs
  bfresh := fun j d2 b hj hO => by
   by_cases he : j = id
   ·subst he; exact .inl ⟨j, d, hg, hO⟩
   ·exact .inl ⟨j, d2, hold j _ hj he, hO⟩
  fresh := fun j o hj hm => by
   by_cases he : j = id
   ·subst he; exact .inl ⟨j, _, hg, trivial, rfl⟩
   ·exact .inl ⟨j, o, hold j _ hj he, hm, rfl⟩
  frow := fun j o hj hm => by
   by_cases he : j = id
   ·subst he
    rw [hget, if_pos rfl] at hj
    injection hj with hj
    subst hj
    exact hm.elim
   ·exact .inl ⟨j, o, hold j _ hj he, hm, fun h => h, rfl⟩
  os := rfl
  tape := rfl
  output := rfl
  nf := fun N hn => nf_set hb hn }
 refine ⟨?_, hst⟩
 exact {
  bgo := hi.bgo
  obj := fun j o hj => by
   by_cases he : j = id
   ·subst he
    rw [hget, if_pos rfl] at hj
    injection hj with hj
    subst hj
    show x.bg.rel d' _ _ _ _
    rw [hi.bgo]
    exact hr
   ·have hj' := hold j _ hj he
    by_cases hd : o = .dead
    ·subst hd; trivial
    ·have hne : x.φ j ≠ x.φ id := fun hp => he (hi.inj j id _ _ hj' hg hd (by simp) hp)
     refine (hi.obj j o hj').mono hext (set_old _ _ _ hne) rfl rfl (fun q hq => (hst.evo q trivial (hi.live j o hj' q hq)).1) fun d2 hd2 => ?_
     subst hd2
     exact ⟨rfl, fun k hk => set_old _ _ _ fun hp => (hi.big j d2 hj' k hk).2.1 id _ hg (by simp) hp.symm, fun _ _ _ h => h⟩
  inj := fun i j oi oj gi gj di dj hp => by
   have key : ∀ {i : Nat} {o : Ev.Obj}, getO (h.set id (some (.big d'))) i = some o → o ≠ .dead → ∃ o2, getO h i = some o2 ∧ o2 ≠ .dead := fun {i o} hi' hd => by
    by_cases he : i = id
    ·subst he; exact ⟨_, hg, by simp⟩
    ·exact ⟨o, hold i _ hi' he, hd⟩
   obtain ⟨a, ha, da⟩ := key gi di
   obtain ⟨b, hb, db⟩ := key gj dj
   exact hi.inj i j a b ha hb da db hp
  own := fun j o hj hm q => by
   by_cases he : j = id
   ·subst he; exact hi.own j _ hg trivial q
   ·exact hi.own j o (hold j _ hj he) hm q
  sh := fun b o hs => by
   show b < (setBlock _ _ _).heap.size
   rw [set_size]; exact hi.sh b o hs
  live := fun j o hj q hq => by
   by_cases he : j = id
   ·subst he
    rw [hget, if_pos rfl] at hj
    injection hj with hj
    subst hj
    simp [Obj.refs] at hq
   ·exact (hst.evo q trivial (hi.live j o (hold j _ hj he) q hq)).2
  glob := fun g j c hg => by simp [G0] at hg
  big := fun j d2 hj b hO => by
   have key : ∃ d3, getO h j = some (.big d3) := by
    by_cases he : j = id
    ·subst he; exact ⟨d, hg⟩
    ·exact ⟨d2, hold j _ hj he⟩
   obtain ⟨d3, h3⟩ := key
   obtain ⟨k1, k2, k3⟩ := hi.big j d3 h3 b hO
   refine ⟨by show b < (setBlock _ _ _).heap.size; rw [set_size]; exact k1, fun i o hi' hd hp => ?_, fun i d4 hi' hOi => ?_⟩
   ·by_cases he : i = id
    ·subst he; exact k2 i _ hg (by simp) hp
    ·exact k2 i o (hold i _ hi' he) hd hp
   ·by_cases he : i = id
    ·subst he; exact k3 i _ hg hOi
    ·exact k3 i d4 (hold i _ hi' he) hOi }
theorem pw_key {es : List MapEntry} (h : es.Pairwise fun a c => a.key ≠ c.key) {i j : Nat} {a b : MapEntry} (hi : es[i]? = some a) (hj : es[j]? = some b) (he : a.key = b.key) : i = j := by
 rcases Nat.lt_trichotomy i j with hlt | rfl | hlt
 ·exact absurd he (List.pairwise_iff_getElem.1 h i j (List.getElem?_eq_some_iff.1 hi).1 (List.getElem?_eq_some_iff.1 hj).1 hlt |> fun h => by
   rw [(List.getElem?_eq_some_iff.1 hi).2, (List.getElem?_eq_some_iff.1 hj).2] at h; exact h)
 ·rfl
 ·exact absurd he.symm (List.pairwise_iff_getElem.1 h j i (List.getElem?_eq_some_iff.1 hj).1 (List.getElem?_eq_some_iff.1 hi).1 hlt |> fun h => by
   rw [(List.getElem?_eq_some_iff.1 hi).2, (List.getElem?_eq_some_iff.1 hj).2] at h; exact h)
theorem mem_modify {es : Array MapEntry} {j : Nat} {e : MapEntry} {F : MapEntry → MapEntry} (hj : es.toList[j]? = some e) (hpw : es.toList.Pairwise fun a c => a.key ≠ c.key) {a : MapEntry} (ha : a ∈ (es.modify j F).toList) : a = F e ∨ (a ∈ es.toList ∧ a.key ≠ e.key) := by
 rw [Array.toList_modify] at ha
 obtain ⟨i, hi⟩ := List.getElem?_of_mem ha
 rw [List.getElem?_modify] at hi
 by_cases c : j = i
 ·subst c
  rw [hj] at hi
  simp at hi
  exact .inl hi.symm
 ·cases hx : es.toList[i]? with
  | none => rw [hx] at hi; simp at hi
  | some y =>
   rw [hx] at hi
   simp [c] at hi
   subst hi
   exact .inr ⟨List.mem_of_getElem? hx, fun he => c (pw_key hpw hj hx he.symm)⟩
theorem modify_mem {es : Array MapEntry} {j : Nat} {e : MapEntry} {F : MapEntry → MapEntry} (hj : es.toList[j]? = some e) {a : MapEntry} (ha : a ∈ es.toList) : a ∈ (es.modify j F).toList ∨ a = e ∧ F e ∈ (es.modify j F).toList := by
 obtain ⟨i, hi⟩ := List.getElem?_of_mem ha
 rw [Array.toList_modify]
 by_cases c : j = i
 ·subst c
  rw [hj] at hi
  injection hi with hi
  refine .inr ⟨hi.symm, List.mem_of_getElem? (i := j) ?_⟩
  rw [List.getElem?_modify, hj]
  simp
 ·refine .inl (List.mem_of_getElem? (i := i) ?_)
  rw [List.getElem?_modify, hi]
  simp [c]
theorem pw_modify {R : MapEntry → MapEntry → Prop} {es : Array MapEntry} {j : Nat} {e : MapEntry} {F : MapEntry → MapEntry} (hj : es.toList[j]? = some e) (h : es.toList.Pairwise R) (h1 : ∀ a ∈ es.toList, R a e → R a (F e)) (h2 : ∀ a ∈ es.toList, R e a → R (F e) a) : (es.modify j F).toList.Pairwise R := by
 rw [Array.toList_modify, List.pairwise_iff_getElem]
 rw [List.pairwise_iff_getElem] at h
 intro i k hi hk hik
 have hi' : i < es.toList.length := by simpa using hi
 have hk' : k < es.toList.length := by simpa using hk
 have := h i k hi' hk' hik
 have hej : ∀ (n : Nat) (hn : n < es.toList.length), j = n → es.toList[n] = e := fun n hn he => by
  subst he
  rw [List.getElem?_eq_getElem hn] at hj
  exact Option.some.inj hj
 rw [List.getElem_modify, List.getElem_modify]
 by_cases c1 : j = i
 ·by_cases c2 : j = k
  ·omega
  ·rw [if_pos c1, if_neg c2]
   rw [hej i hi' c1] at this ⊢
   exact h2 _ (List.getElem_mem hk') this
 ·by_cases c2 : j = k
  ·rw [if_neg c1, if_pos c2]
   rw [hej k hk' c2] at this ⊢
   exact h1 _ (List.getElem_mem hi') this
  ·rw [if_neg c1, if_neg c2]
   exact this
theorem upd_flags (g : Nat → Bool) (f t : Int) (b : Bool) (hl : isLine f t = true) : PContract Try.prog G0 229 [.mp 0, .agg [.s (.int .i64 f), .s (.int .i64 t)], .s (.bool b)] [.big (.flags g)] [.s undef] [.big (.flags (upd1 g (lnIx f t) b))] := by
 intro x vals hB hi hal har hlv
 match vals, hal with
 | [v0, v1, v2], _ =>
  obtain rfl := mp_inv (har 0 _ v0 rfl rfl) (d := .flags g) rfl
  obtain rfl := key_inv (har 1 _ v1 rfl rfl)
  obtain rfl := (har 2 _ v2 rfl rfl).s_inv
  obtain ⟨es, clock, k1, k3, k4, k5, k6, k7⟩ := flags_of (id := 0) hi rfl
  have hk := key_of f t (line_in hl).1 (line_in hl).2
  have hes : ∀ e ∈ es.toList, ∃ l, keyOf Try.prog 60 e.key = some l := fun e he => by
   obtain ⟨f', t', q1, q2, _⟩ := k3 e he
   rw [q2]
   exact key_of f' t' (line_in q1).1 (line_in q1).2
  have other : ∀ {f' t' : Int}, isLine f' t' = true → lnKey f' t' ≠ lnKey f t → upd1 g (lnIx f t) b (lnIx f' t') = g (lnIx f' t') := fun {f' t'} h1 h2 => by
   unfold upd1
   rw [if_neg fun h => h2 (by obtain ⟨rfl, rfl⟩ := lnIx_inj h1 hl h; rfl)]
  have self : upd1 g (lnIx f t) b (lnIx f t) = b := if_pos rfl
  have done : ∀ es' c', (Instr.mapUpdate 57 (.map (some (x.φ 0))) (lnKey f t) (.bool b)).run Try.prog x.w = .ok () (setBlock x.w (x.φ 0) (.map es' c')) → FlagsAt (upd1 g (lnIx f t) b) (setBlock x.w (x.φ 0) (.map es' c')) (x.φ 0) → ∃ us x', (pInstr 229 [.map (some (x.φ 0)), lnKey f t, .bool b]).run Try.prog x.w = .ok (mkRes us) x'.w ∧ Post G0 x [.big (.flags g)] [.s undef] [.big (.flags (upd1 g (lnIx f t) b))] x' us := fun es' c' hr hrel => by
   obtain ⟨i1, s1⟩ := big_set (id := 0) (d' := .flags (upd1 g (lnIx f t) b)) hi rfl k1 hrel
   refine ⟨[undef], _, ?_, i1, s1, rfl, fun i a v h1 h2 => ?_, fun id hid => by simp [refsL, AV.refs] at hid⟩
   ·show (do
     Instr.mapUpdate 57 (.map (some (x.φ 0))) (lnKey f t) (.bool b)
     pure undef).run Try.prog x.w = _
    simp only [Sem.run_bind, hr, Result.andThen_ok, Sem.run_pure]
    rfl
   ·cases i with
    | zero => simp at h1 h2; subst h1 h2; exact .s _
    | succ i => simp at h1
  rcases run_upd (v := .bool b) und57 k1 hes hk with ⟨h1, h2⟩ | ⟨j, e, h2, h3, h1⟩
  ·refine done _ _ h1 ⟨_, _, set_new k1, fun a ha => ?_, fun f' t' q1 q2 => ?_, ?_, ?_, fun a ha => ?_⟩
   ·simp only [Array.toList_push, List.mem_append, List.mem_singleton] at ha
    rcases ha with ha | rfl
    ·obtain ⟨f', t', q1, q2, q3⟩ := k3 a ha
     exact ⟨f', t', q1, q2, by rw [q3, other q1 (q2 ▸ h2 a ha)]⟩
    ·exact ⟨f, t, hl, rfl, by rw [self]⟩
   ·by_cases c : lnKey f' t' = lnKey f t
    ·exact ⟨_, by simp only [Array.toList_push, List.mem_append, List.mem_singleton]; exact .inr rfl, c.symm⟩
    ·rw [other q1 c] at q2
     obtain ⟨a, ha, q3⟩ := k4 f' t' q1 q2
     exact ⟨a, by simp [ha], q3⟩
   ·simp only [Array.toList_push]
    exact List.pairwise_append.2 ⟨k5, by simp, fun a ha c hc => by simp only [List.mem_singleton] at hc; subst hc; exact h2 a ha⟩
   ·simp only [Array.toList_push]
    exact List.pairwise_append.2 ⟨k6, by simp, fun a ha c hc => by simp only [List.mem_singleton] at hc; subst hc; have := k7 a ha; simp only; omega⟩
   ·simp only [Array.toList_push, List.mem_append, List.mem_singleton] at ha
    rcases ha with ha | rfl
    ·have := k7 a ha; omega
    ·exact Nat.lt_succ_self _
  ·refine done _ _ h1 ⟨_, _, set_new k1, fun a ha => ?_, fun f' t' q1 q2 => ?_, ?_, ?_, fun a ha => ?_⟩
   ·rcases mem_modify h2 k5 ha with rfl | ⟨ha, hne⟩
    ·exact ⟨f, t, hl, rfl, by rw [self]⟩
    ·obtain ⟨f', t', q1, q2, q3⟩ := k3 a ha
     exact ⟨f', t', q1, q2, by rw [q3, other q1 (by rw [← q2, ← h3]; exact hne)]⟩
   ·by_cases c : lnKey f' t' = lnKey f t
    ·rcases modify_mem (F := fun e => { e with key := lnKey f t, val := .bool b }) h2 (List.mem_of_getElem? h2) with _ | ⟨_, h4⟩
     ·rename_i h4
      exact ⟨e, h4, by rw [h3, c]⟩
     ·exact ⟨_, h4, c.symm⟩
    ·rw [other q1 c] at q2
     obtain ⟨a, ha, q3⟩ := k4 f' t' q1 q2
     rcases modify_mem (F := fun e => { e with key := lnKey f t, val := .bool b }) h2 ha with h4 | ⟨rfl, _⟩
     ·exact ⟨a, h4, q3⟩
     ·exact absurd (q3.symm.trans h3) c
   ·exact pw_modify h2 k5 (fun a _ h => h3 ▸ h) (fun a _ h => h3 ▸ h)
   ·exact pw_modify h2 k6 (fun a _ h => h) (fun a _ h => h)
   ·rcases mem_modify h2 k5 ha with rfl | ⟨ha, _⟩
    ·exact k7 e (List.mem_of_getElem? h2)
    ·exact k7 a ha
end Go.Proofs.Ytdgfbfkjdflabaa
namespace Go.Proofs.Ytdgfbfkjdflabaa
open Go.Ev
open Go.WideShapes Go.ChangeMaps
theorem unB_ok : ∀ {bs : List (List C)} {m : List UInt8}, unB bs = some m → bs = eB m
 | [], m, h => by simp [unB] at h; subst h; rfl
 | e :: r, m, h => by
  unfold unB at h
  split at h
  ·rename_i he; simp at he
  ·rename_i n r' he
   injection he with e1 e2
   subst e1 e2
   split at h
   ·rename_i y hy
    split at h
    ·rename_i hn
     injection h with h
     subst h
     rw [unB_ok hy]
     have : ((byt n).toNat : Int) = n := by
      simp only [byt]
      have h1 : (n % 256) = n := by omega
      rw [h1]
      have h2 : n.toNat < 256 := by omega
      simp [UInt8.toNat_ofNat, Nat.mod_eq_of_lt h2]
      omega
     simp [eB, this]
    ·simp at h
   ·simp at h
  ·simp at h
theorem unBs_ok : ∀ {bs : List (List C)} {ms : List (List UInt8)}, unBs bs = some ms → bs = eBs ms
 | [], m, h => by simp [unBs] at h; subst h; rfl
 | e :: r, m, h => by
  unfold unBs at h
  split at h
  ·rename_i he; simp at he
  ·rename_i b r' he
   injection he with e1 e2
   subst e1 e2
   split at h
   ·rename_i x y hx hy
    injection h with h
    subst h
    rw [unB_ok hx, unBs_ok hy]
    rfl
   ·simp at h
  ·simp at h
theorem RowAlone.wide {w : World} {S : Nat → Nat → Prop} {Ω Ω' : Nat → Prop} {v : Value} {ms : List (List UInt8)} (h : RowAlone w S Ω v ms) (hw : ∀ b, Ω b → Ω' b) : RowAlone w S Ω' v ms := by
 obtain ⟨b, cap, arr, e, k1, k2, k3⟩ := h
 exact ⟨b, cap, arr, e, k1, hw b k2, k3⟩
theorem RowAlone.blk {w : World} {S : Nat → Nat → Prop} {Ω : Nat → Prop} {v : Value} {ms : List (List UInt8)} (h : RowAlone w S Ω v ms) : Ω (rowBlk v) := by
 obtain ⟨b, cap, arr, e, rfl, k2, _⟩ := h
 exact k2
theorem row_inv {x : Cx} {h : Heap} {id n : Nat} {v : Value} {e s : Nat} {o f : Bool} {l : List (List C)} (hr : RelV x h (.row id n) v) (hg : getO h id = some (.row e s o f l)) (hl : l.length = n) : v = .slice (some ⟨x.φ id, 0, none⟩) n (x.κ id) := by
 cases hr with
 | row _ _ _ _ _ hr => exact hr _ _ _ _ _ hg hl
theorem upd_lines (l : Nat → Option (List (List UInt8))) (f t : Int) (e : Nat) (o : Bool) (ms : List (List UInt8)) (hl : isLine f t = true) : PContract Try.prog G0 225 [.mp 0, .agg [.s (.int .i64 f), .s (.int .i64 t)], .row 1 (eBs ms).length] [.big (.lines l), .row e 1 o false (eBs ms)] [.s undef] [.big (.lines (upd1 l (lnIx f t) (some ms))), .dead] := by
 intro x vals hB hi hal har hlv
 match vals, hal with
 | [v0, v1, v2], _ =>
  generalize hh : [Ev.Obj.big (.lines l), .row e 1 o false (eBs ms)].map some = h at *
  have g0 : getO h 0 = some (.big (.lines l)) := by rw [← hh]; rfl
  have g1 : getO h 1 = some (.row e 1 o false (eBs ms)) := by rw [← hh]; rfl
  have gn : ∀ j, 2 ≤ j → getO h j = none := fun j hj => by
   rw [← hh, getO_map]
   exact List.getElem?_eq_none hj
  have hgl : ∀ {i : Nat} {ob : Ev.Obj}, getO h i = some ob → i < 2 := fun {i ob} hg => by
   rcases Nat.lt_or_ge i 2 with h | h
   ·exact h
   ·rw [gn i h] at hg; cases hg
  obtain rfl := mp_inv (har 0 _ v0 rfl rfl) g0
  obtain rfl := key_inv (har 1 _ v1 rfl rfl)
  obtain rfl := row_inv (har 2 _ v2 rfl rfl) g1 rfl
  obtain ⟨es, clock, k1, k3, k4⟩ := lines_of hi g0
  obtain ⟨arr, r1, r2, r3, r4, r5, r6, r7, r8, r9, r10⟩ := hi.obj 1 _ g1
  have h01 : x.φ 0 ≠ x.φ 1 := fun he => by
   have := hi.inj 0 1 _ _ g0 g1 (by simp) (by simp) he
   cases this
  have hlt1 : x.φ 1 < x.w.heap.size := (Array.getElem?_eq_some_iff.1 r1).1
  have hO : ∀ {c : Nat}, x.Ω 0 c → c < x.w.heap.size ∧ c ≠ x.φ 0 ∧ c ≠ x.φ 1 := fun {c} hc => by
   obtain ⟨q1, q2, _⟩ := hi.big 0 _ g0 c hc
   exact ⟨q1, fun he => q2 0 _ g0 (by simp) he.symm, fun he => q2 1 _ g1 (by simp) he.symm⟩
  have own0 : ∀ q, ¬ x.S (x.φ 0) q := hi.own 0 _ g0 trivial
  have own1 : ∀ q, ¬ x.S (x.φ 1) q := hi.own 1 _ g1 rfl
  have hk := key_of f t (line_in hl).1 (line_in hl).2
  let S' : Nat → Nat → Prop := fun b q => x.S b q ∨ (b = x.φ 1 ∧ q < ms.length)
  let Ω' : Nat → Prop := fun b => x.Ω 0 b ∨ b = x.φ 1
  have done : ∀ es' c', (Instr.mapUpdate 56 (.map (some (x.φ 0))) (lnKey f t) (.slice (some ⟨x.φ 1, 0, none⟩) (eBs ms).length (x.κ 1))).run Try.prog x.w = .ok () (setBlock x.w (x.φ 0) (.map es' c')) → LinesAt (upd1 l (lnIx f t) (some ms)) (setBlock x.w (x.φ 0) (.map es' c')) S' (x.φ 0) Ω' → ∃ us x', (pInstr 225 [.map (some (x.φ 0)), lnKey f t, .slice (some ⟨x.φ 1, 0, none⟩) (eBs ms).length (x.κ 1)]).run Try.prog x.w = .ok (mkRes us) x'.w ∧ Post G0 x [.big (.lines l), .row e 1 o false (eBs ms)] [.s undef] [.big (.lines (upd1 l (lnIx f t) (some ms))), .dead] x' us := fun es' c' hr hrel => by
   generalize hw' : setBlock x.w (x.φ 0) (.map es' c') = w' at hr hrel
   have hsz : w'.heap.size = x.w.heap.size := by rw [← hw']; exact set_size _ _ _
   have hold : ∀ c, c ≠ x.φ 0 → w'.heap[c]? = x.w.heap[c]? := fun c hc => by rw [← hw']; exact set_old _ _ _ hc
   let x' : Cx := { w := w', S := S', φ := x.φ, κ := x.κ, B0 := x.B0, Ω := fun s => if s = 0 then Ω' else x.Ω s, bg := x.bg }
   have hext : Ext x x' := ⟨rfl, rfl, fun b q hs => ⟨.inl hs, by
    have : b ≠ x.φ 0 := fun he => own0 q (he ▸ hs)
    simp only [World.cell?]
    rw [show x'.w.heap[b]? = x.w.heap[b]? from hold b this]⟩⟩
   generalize hh' : [Ev.Obj.big (.lines (upd1 l (lnIx f t) (some ms))), .dead].map some = h'
   have q0 : getO h' 0 = some (.big (.lines (upd1 l (lnIx f t) (some ms)))) := by rw [← hh']; rfl
   have q1 : getO h' 1 = some .dead := by rw [← hh']; rfl
   have hgl' : ∀ {i : Nat} {ob : Ev.Obj}, getO h' i = some ob → (i = 0 ∧ ob = .big (.lines (upd1 l (lnIx f t) (some ms)))) ∨ (i = 1 ∧ ob = .dead) := fun {i ob} hg => by
    match i, hg with
    | 0, hg => rw [q0] at hg; injection hg with hg; exact .inl ⟨rfl, hg.symm⟩
    | 1, hg => rw [q1] at hg; injection hg with hg; exact .inr ⟨rfl, hg.symm⟩
    | i + 2, hg =>
     rw [← hh', getO_map] at hg
     simp at hg
   refine ⟨[undef], x', ?_, ?_, ?_, rfl, fun i a v h1 h2 => ?_, fun id hid => by simp [refsL, AV.refs] at hid⟩
   ·show (do
     Instr.mapUpdate 56 (.map (some (x.φ 0))) (lnKey f t) (.slice (some ⟨x.φ 1, 0, none⟩) (eBs ms).length (x.κ 1))
     pure undef).run Try.prog x.w = _
    simp only [Sem.run_bind, hr, Result.andThen_ok, Sem.run_pure]
    rfl
   ·rw [hh']
    exact {
     bgo := hi.bgo
     obj := fun i ob hg => by
      rcases hgl' hg with ⟨rfl, rfl⟩ | ⟨rfl, rfl⟩
      ·show x.bg.rel _ _ _ _ _
       rw [hi.bgo]
       exact hrel
      ·trivial
     inj := fun i j oi oj gi gj di dj _ => by
      rcases hgl' gi with ⟨rfl, rfl⟩ | ⟨rfl, rfl⟩
      ·rcases hgl' gj with ⟨rfl, rfl⟩ | ⟨rfl, rfl⟩
       ·rfl
       ·exact absurd rfl dj
      ·exact absurd rfl di
     own := fun i ob hg hm q hS => by
      rcases hgl' hg with ⟨rfl, rfl⟩ | ⟨rfl, rfl⟩
      ·rcases hS with hS | hS
       ·exact own0 q hS
       ·exact h01 hS.1
      ·exact hm
     sh := fun b q hS => by
      show b < w'.heap.size
      rw [hsz]
      rcases hS with hS | hS
      ·exact hi.sh b q hS
      ·rw [hS.1]; exact hlt1
     live := fun i ob hg j hj => by
      rcases hgl' hg with ⟨rfl, rfl⟩ | ⟨rfl, rfl⟩ <;> simp [Obj.refs] at hj
     glob := fun g j c hg => by simp [G0] at hg
     big := fun i d hg b hb => by
      rcases hgl' hg with ⟨rfl, _⟩ | ⟨_, hd⟩
      ·have hb' : Ω' b := by simpa [x'] using hb
       have hbq : b < x.w.heap.size ∧ x.φ 0 ≠ b := by
        rcases hb' with hb' | rfl
        ·exact ⟨(hO hb').1, fun he => (hO hb').2.1 he.symm⟩
        ·exact ⟨hlt1, h01⟩
       refine ⟨by show b < w'.heap.size; rw [hsz]; exact hbq.1, fun j ob hj hdj hp => ?_, fun j d' hj _ => ?_⟩
       ·rcases hgl' hj with ⟨rfl, rfl⟩ | ⟨rfl, rfl⟩
        ·exact hbq.2 hp
        ·exact hdj rfl
       ·rcases hgl' hj with ⟨rfl, _⟩ | ⟨_, hd⟩
        ·rfl
        ·cases hd
      ·cases hd }
   ·rw [hh, hh']
    exact {
     ext := hext
     size := Nat.le_of_eq hsz.symm
     evo := fun j _ hj => by
      obtain ⟨ob, hob⟩ := Option.isSome_iff_exists.1 hj
      have hj2 := hgl hob
      have : j = 0 ∨ j = 1 := by omega
      rcases this with rfl | rfl
      ·exact ⟨⟨(fun cs hc => by rw [q0] at hc; cases hc), (fun _ _ _ _ _ hc => by rw [q0] at hc; cases hc), fun d hc => ⟨⟨_, g0⟩, rfl⟩⟩, by rw [q0]; rfl⟩
      ·exact ⟨⟨(fun cs hc => by rw [q1] at hc; cases hc), (fun _ _ _ _ _ hc => by rw [q1] at hc; cases hc), (fun d hc => by rw [q1] at hc; cases hc)⟩, by rw [q1]; rfl⟩
     frame := fun b hb hm _ => hold b fun he => hm 0 _ g0 trivial he.symm
     sgrow := fun b q hS => hS.elim .inl fun hS => .inr (.inl ⟨1, _, g1, trivial, rfl, hS.1.symm⟩)
     bfresh := fun j d b hj hb => by
      rcases hgl' hj with ⟨rfl, _⟩ | ⟨_, hd⟩
      ·have hb' : Ω' b := by simpa [x'] using hb
       rcases hb' with hb' | rfl
       ·exact .inl ⟨0, _, g0, hb'⟩
       ·exact .inr (.inr ⟨1, _, g1, trivial, rfl, rfl⟩)
      ·cases hd
     fresh := fun j ob hj hm => by
      rcases hgl' hj with ⟨rfl, rfl⟩ | ⟨_, rfl⟩
      ·exact .inl ⟨0, _, g0, trivial, rfl⟩
      ·exact hm.elim
     frow := fun j ob hj hm => by
      rcases hgl' hj with ⟨rfl, rfl⟩ | ⟨_, rfl⟩ <;> exact hm.elim
     os := by show w'.os = _; rw [← hw']; rfl
     tape := by show w'.tape = _; rw [← hw']; rfl
     output := by show w'.output = _; rw [← hw']; rfl
     nf := fun N hn => by show NF N w'; rw [← hw']; exact nf_set k1 hn }
   ·cases i with
    | zero => simp at h1 h2; subst h1 h2; exact .s _
    | succ i => simp at h1
  have other : ∀ {f' t' : Int}, isLine f' t' = true → lnKey f' t' ≠ lnKey f t → upd1 l (lnIx f t) (some ms) (lnIx f' t') = l (lnIx f' t') := fun {f' t'} h1 h2 => by
   unfold upd1
   rw [if_neg fun h => h2 (by obtain ⟨rfl, rfl⟩ := lnIx_inj h1 hl h; rfl)]
  have self : upd1 l (lnIx f t) (some ms) (lnIx f t) = some ms := if_pos rfl
  have hkeep : ∀ {w' : World} {v : Value} {m : List (List UInt8)}, (∀ c, c ≠ x.φ 0 → w'.heap[c]? = x.w.heap[c]?) → RowAlone x.w x.S (x.Ω 0) v m → RowAlone w' S' Ω' v m := fun {w' v m} hw h => by
   refine (h.mono (w' := w') (S' := S') (fun c hc => hw c (hO hc).2.1) (fun b q hs => ⟨.inl hs, ?_⟩) fun c q hc hS => hS.elim (fun h => h) fun h => absurd h.1 (hO hc).2.2).wide fun b hb => .inl hb
   have : b ≠ x.φ 0 := fun he => own0 q (he ▸ hs)
   simp only [World.cell?]
   rw [hw b this]
  have hmine : ∀ {w' : World}, (∀ c, c ≠ x.φ 0 → w'.heap[c]? = x.w.heap[c]?) → RowAlone w' S' Ω' (.slice (some ⟨x.φ 1, 0, none⟩) (eBs ms).length (x.κ 1)) ms := fun {w'} hw => by
   rw [eBs_len] at r3 ⊢
   refine ⟨x.φ 1, x.κ 1, arr, e, rfl, .inr rfl, (hw _ (Ne.symm h01)).trans r1, by simpa using r2, r3, r4, r7, fun j hj => .inr ⟨rfl, hj⟩, fun j hj hS => hS.elim (own1 j) fun h => by omega, fun i m hm => ?_⟩
   have hi' := (List.getElem?_eq_some_iff.1 hm).1
   obtain ⟨u, u1, u2⟩ := r8 i 0 _ (.sl (eB m)) (eBs_get hi') (by
    have : ms.getD i [] = m := by simp [List.getD, hm]
    rw [this]; rfl)
   refine ⟨u, by simpa using u1, u2.mono fun b q hs => ⟨.inl hs.1, ?_⟩⟩
   have : b ≠ x.φ 0 := fun he => own0 q (he ▸ hs.1)
   simp only [World.cell?]
   rw [hw b this]
  have hblk : ∀ a ∈ es.toList, rowBlk a.val ≠ x.φ 1 := fun a ha => by
   obtain ⟨_, _, _, _, _, h4⟩ := k3.key a ha
   exact (hO h4.blk).2.2
  rcases run_upd (v := .slice (some ⟨x.φ 1, 0, none⟩) (eBs ms).length (x.κ 1)) und56 k1 (keys_of k3) hk with ⟨h1, h2⟩ | ⟨j, en, h2, h3, h1⟩
  ·have hw : ∀ c, c ≠ x.φ 0 → (setBlock x.w (x.φ 0) (.map (es.push { key := lnKey f t, val := .slice (some ⟨x.φ 1, 0, none⟩) (eBs ms).length (x.κ 1), born := clock }) (clock + 1))).heap[c]? = x.w.heap[c]? := fun c hc => set_old _ _ _ hc
   refine done _ _ h1 ⟨_, _, set_new k1, ⟨fun a ha => ?_, fun f' t' q1 q2 => ?_, ?_, ?_, fun a ha => ?_⟩, ?_⟩
   ·simp only [Array.toList_push, List.mem_append, List.mem_singleton] at ha
    rcases ha with ha | rfl
    ·obtain ⟨f', t', q1, q2, q3, q4⟩ := k3.key a ha
     have ho := other q1 (q2 ▸ h2 a ha)
     exact ⟨f', t', q1, q2, by rw [ho]; exact q3, by rw [ho]; exact hkeep hw q4⟩
    ·exact ⟨f, t, hl, rfl, by rw [self]; rfl, by rw [self]; exact hmine hw⟩
   ·by_cases c : lnKey f' t' = lnKey f t
    ·exact ⟨_, by simp only [Array.toList_push, List.mem_append, List.mem_singleton]; exact .inr rfl, c.symm⟩
    ·rw [other q1 c] at q2
     obtain ⟨a, ha, q3⟩ := k3.all f' t' q1 q2
     exact ⟨a, by simp [ha], q3⟩
   ·simp only [Array.toList_push]
    exact List.pairwise_append.2 ⟨k3.one, by simp, fun a ha c hc => by simp only [List.mem_singleton] at hc; subst hc; exact h2 a ha⟩
   ·simp only [Array.toList_push]
    exact List.pairwise_append.2 ⟨k3.born, by simp, fun a ha c hc => by simp only [List.mem_singleton] at hc; subst hc; have := k3.old a ha; simp only; omega⟩
   ·simp only [Array.toList_push, List.mem_append, List.mem_singleton] at ha
    rcases ha with ha | rfl
    ·have := k3.old a ha; omega
    ·exact Nat.lt_succ_self _
   ·simp only [Array.toList_push]
    exact List.pairwise_append.2 ⟨k4, by simp, fun a ha c hc => by simp only [List.mem_singleton] at hc; subst hc; exact hblk a ha⟩
  ·have hw : ∀ c, c ≠ x.φ 0 → (setBlock x.w (x.φ 0) (.map (es.modify j fun e => { e with key := lnKey f t, val := .slice (some ⟨x.φ 1, 0, none⟩) (eBs ms).length (x.κ 1) }) clock)).heap[c]? = x.w.heap[c]? := fun c hc => set_old _ _ _ hc
   refine done _ _ h1 ⟨_, _, set_new k1, ⟨fun a ha => ?_, fun f' t' q1 q2 => ?_, ?_, ?_, fun a ha => ?_⟩, ?_⟩
   ·rcases mem_modify h2 k3.one ha with rfl | ⟨ha, hne⟩
    ·exact ⟨f, t, hl, rfl, by rw [self]; rfl, by rw [self]; exact hmine hw⟩
    ·obtain ⟨f', t', q1, q2, q3, q4⟩ := k3.key a ha
     have ho := other q1 (by rw [← q2, ← h3]; exact hne)
     exact ⟨f', t', q1, q2, by rw [ho]; exact q3, by rw [ho]; exact hkeep hw q4⟩
   ·by_cases c : lnKey f' t' = lnKey f t
    ·rcases modify_mem (F := fun e => { e with key := lnKey f t, val := .slice (some ⟨x.φ 1, 0, none⟩) (eBs ms).length (x.κ 1) }) h2 (List.mem_of_getElem? h2) with h4 | ⟨_, h4⟩
     ·exact ⟨en, h4, by rw [h3, c]⟩
     ·exact ⟨_, h4, c.symm⟩
    ·rw [other q1 c] at q2
     obtain ⟨a, ha, q3⟩ := k3.all f' t' q1 q2
     rcases modify_mem (F := fun e => { e with key := lnKey f t, val := .slice (some ⟨x.φ 1, 0, none⟩) (eBs ms).length (x.κ 1) }) h2 ha with h4 | ⟨rfl, _⟩
     ·exact ⟨a, h4, q3⟩
     ·exact absurd (q3.symm.trans h3) c
   ·exact pw_modify h2 k3.one (fun a _ h => h3 ▸ h) (fun a _ h => h3 ▸ h)
   ·exact pw_modify h2 k3.born (fun a _ h => h) (fun a _ h => h)
   ·rcases mem_modify h2 k3.one ha with rfl | ⟨ha, _⟩
    ·exact k3.old en (List.mem_of_getElem? h2)
    ·exact k3.old a ha
   ·exact pw_modify h2 k4 (fun a ha _ => hblk a ha) (fun a ha _ => fun he => hblk a ha he.symm)
end Go.Proofs.Ytdgfbfkjdflabaa
namespace Go.Proofs.Ytdgfbfkjdflabaa
open Go.Ev
open Go.WideShapes Go.ChangeMaps
theorem big_upd {x : Cx} {h : Heap} {id : Nat} {d d' : Big} {w' : World} {S' : Nat → Nat → Prop} {Ω' : Nat → Prop} (hi : Inv G0 x h) (hg : getO h id = some (.big d)) (hsz : x.w.heap.size ≤ w'.heap.size)
  (hold : ∀ c, c < x.w.heap.size → c ≠ x.φ id → ¬ x.Ω id c → w'.heap[c]? = x.w.heap[c]?) (hcell : ∀ b o, x.S b o → w'.cell? ⟨b, o, none⟩ = x.w.cell? ⟨b, o, none⟩)
  (hS : ∀ b o, x.S b o → S' b o) (hS' : ∀ b o, S' b o → x.S b o ∨ x.Ω id b ∨ (x.w.heap.size ≤ b ∧ b < w'.heap.size)) (hO : ∀ c, Ω' c → x.Ω id c ∨ (x.w.heap.size ≤ c ∧ c < w'.heap.size))
  (hrel : netRel.rel d' w' S' (x.φ id) Ω') (hos : w'.os = x.w.os) (htape : w'.tape = x.w.tape) (hout : w'.output = x.w.output) (hnf : ∀ N, NF N x.w → NF N w') :
  Inv G0 { x with w := w', S := S', Ω := fun s => if s = id then Ω' else x.Ω s } (h.set id (some (.big d'))) ∧ Step (fun _ => True) x h { x with w := w', S := S', Ω := fun s => if s = id then Ω' else x.Ω s } (h.set id (some (.big d'))) := by
 have hlt := getO_lt (by rw [hg]; rfl : (getO h id).isSome)
 have hget : ∀ j, getO (h.set id (some (.big d'))) j = if j = id then some (.big d') else getO h j := fun j => getO_set hlt j
 have hext : Ext x { x with w := w', S := S', Ω := fun s => if s = id then Ω' else x.Ω s } := ⟨rfl, rfl, fun b o hs => ⟨hS b o hs, hcell b o hs⟩⟩
 have hkeep : ∀ j o, getO (h.set id (some (.big d'))) j = some o → j ≠ id → getO h j = some o := fun j o hj hne => by rwa [hget, if_neg hne] at hj
 have hΩi : ∀ {b : Nat}, x.Ω id b → b < x.w.heap.size := fun {b} hb => (hi.big id d hg b hb).1
 have hst : Step (fun _ => True) x h { x with w := w', S := S', Ω := fun s => if s = id then Ω' else x.Ω s } (h.set id (some (.big d'))) := {
  ext := hext
  size := hsz
  evo := fun j _ hj => by
   by_cases he : j = id
   ·subst he
    refine ⟨⟨fun cs hc => ?_, fun e s o f l hc => ?_, fun d2 hc => ⟨⟨d, hg⟩, rfl⟩⟩, by rw [hget, if_pos rfl]; rfl⟩ <;> (rw [hget, if_pos rfl] at hc; simp at hc)
   ·exact ⟨.same (by rw [hget, if_neg he]) rfl rfl, by rw [hget, if_neg he]; exact hj⟩
  frame := fun b hb hm hbig => hold b hb (fun he => hm id _ hg trivial he.symm) (hbig id d hg)
  sgrow := fun b o hs => by
   rcases hS' b o hs with h1 | h1 | h1
   ·exact .inl h1
   ·exact .inr (.inr (.inr ⟨id, d, hg, h1⟩))
   ·exact .inr (.inr (.inl h1.1))
  bfresh := fun j d2 b hj hb => by
   by_cases he : j = id
   ·subst he
    have hb' : Ω' b := by simpa using hb
    rcases hO b hb' with h1 | h1
    ·exact .inl ⟨j, d, hg, h1⟩
    ·exact .inr (.inl h1.1)
   ·exact .inl ⟨j, d2, hkeep j _ hj he, by simpa [he] using hb⟩
  fresh := fun j o hj hm => by
   by_cases he : j = id
   ·subst he; exact .inl ⟨j, _, hg, trivial, rfl⟩
   ·exact .inl ⟨j, o, hkeep j _ hj he, hm, rfl⟩
  frow := fun j o hj hm => by
   by_cases he : j = id
   ·subst he
    rw [hget, if_pos rfl] at hj
    injection hj with hj
    subst hj
    exact hm.elim
   ·exact .inl ⟨j, o, hkeep j _ hj he, hm, fun h => h, rfl⟩
  os := hos
  tape := htape
  output := hout
  nf := hnf }
 refine ⟨?_, hst⟩
 exact {
  bgo := hi.bgo
  obj := fun j o hj => by
   by_cases he : j = id
   ·subst he
    rw [hget, if_pos rfl] at hj
    injection hj with hj
    subst hj
    show x.bg.rel d' w' S' (x.φ j) (if j = j then Ω' else x.Ω j)
    rw [hi.bgo, if_pos rfl]
    exact hrel
   ·have hj' := hkeep j _ hj he
    by_cases hd : o = .dead
    ·subst hd; trivial
    ·have hne : x.φ j ≠ x.φ id := fun hp => he (hi.inj j id _ _ hj' hg hd (by simp) hp)
     refine (hi.obj j o hj').mono hext (hold _ (block_lt hi hj' hd) hne fun hO' => (hi.big id d hg _ hO').2.1 j o hj' hd rfl) rfl rfl (fun q hq => (hst.evo q trivial (hi.live j o hj' q hq)).1) fun d2 hd2 => ?_
     subst hd2
     refine ⟨by simp [he], fun k hk => ?_, fun k q hk hs => ?_⟩
     ·obtain ⟨q1, q2, q3⟩ := hi.big j d2 hj' k hk
      exact hold k q1 (fun hp => q2 id _ hg (by simp) hp.symm) fun hO' => he ((q3 id d hg hO').symm)
     ·obtain ⟨q1, q2, q3⟩ := hi.big j d2 hj' k hk
      rcases hS' k q hs with h1 | h1 | h1
      ·exact h1
      ·exact absurd (q3 id d hg h1).symm he
      ·omega
  inj := fun i j oi oj gi gj di dj hp => by
   have key : ∀ {i : Nat} {o : Ev.Obj}, getO (h.set id (some (.big d'))) i = some o → o ≠ .dead → ∃ o2, getO h i = some o2 ∧ o2 ≠ .dead := fun {i o} hi' hd => by
    by_cases he : i = id
    ·subst he; exact ⟨_, hg, by simp⟩
    ·exact ⟨o, hkeep i _ hi' he, hd⟩
   obtain ⟨a, ha, da⟩ := key gi di
   obtain ⟨b, hb, db⟩ := key gj dj
   exact hi.inj i j a b ha hb da db hp
  own := fun j o hj hm q hs => by
   have key : ∃ o2, getO h j = some o2 ∧ o2.mut := by
    by_cases he : j = id
    ·subst he; exact ⟨_, hg, trivial⟩
    ·exact ⟨o, hkeep j _ hj he, hm⟩
   obtain ⟨o2, h2, m2⟩ := key
   have hd : o2 ≠ .dead := fun h => by subst h; exact m2.elim
   rcases hS' _ q hs with h1 | h1 | h1
   ·exact hi.own j o2 h2 m2 q h1
   ·exact (hi.big id d hg _ h1).2.1 j o2 h2 hd rfl
   ·have := block_lt hi h2 hd
    have h3 := h1.1
    simp only at h3
    omega
  sh := fun b o hs => by
   rcases hS' b o hs with h1 | h1 | h1
   ·exact Nat.lt_of_lt_of_le (hi.sh b o h1) hsz
   ·exact Nat.lt_of_lt_of_le (hΩi h1) hsz
   ·exact h1.2
  live := fun j o hj q hq => by
   by_cases he : j = id
   ·subst he
    rw [hget, if_pos rfl] at hj
    injection hj with hj
    subst hj
    simp [Obj.refs] at hq
   ·exact (hst.evo q trivial (hi.live j o (hkeep j _ hj he) q hq)).2
  glob := fun g j c hg => by simp [G0] at hg
  big := fun j d2 hj b hb => by
   have key : ∀ {i : Nat} {o : Ev.Obj}, getO (h.set id (some (.big d'))) i = some o → o ≠ .dead → ∃ o2, getO h i = some o2 ∧ o2 ≠ .dead := fun {i o} hi' hd => by
    by_cases he : i = id
    ·subst he; exact ⟨_, hg, by simp⟩
    ·exact ⟨o, hkeep i _ hi' he, hd⟩
   have big2 : ∀ {i : Nat} {d3 : Big}, getO (h.set id (some (.big d'))) i = some (.big d3) → i ≠ id → (if i = id then Ω' else x.Ω i) b → getO h i = some (.big d3) ∧ x.Ω i b := fun {i d3} hi' he hb' => ⟨hkeep i _ hi' he, by rwa [if_neg he] at hb'⟩
   have mine : ∀ {i : Nat} {d3 : Big}, getO h i = some (.big d3) → x.Ω i b → i ≠ id → Ω' b → False := fun {i d3} h3 hb3 hne hO' => by
    obtain ⟨k1, _, k3⟩ := hi.big i d3 h3 b hb3
    rcases hO b hO' with h1 | h1
    ·exact hne (k3 id d hg h1).symm
    ·omega
   by_cases he : j = id
   ·subst he
    have hb' : Ω' b := by simpa using hb
    refine ⟨?_, fun i o hi' hd hp => ?_, fun i d4 hi' hOi => ?_⟩
    ·rcases hO b hb' with h1 | h1
     ·exact Nat.lt_of_lt_of_le (hΩi h1) hsz
     ·exact h1.2
    ·obtain ⟨o2, h2, d2'⟩ := key hi' hd
     rcases hO b hb' with h1 | h1
     ·exact (hi.big j d hg b h1).2.1 i o2 h2 d2' hp
     ·have := block_lt hi h2 d2'
      have hp' : x.φ i = b := hp
      omega
    ·by_cases hn : i = j
     ·exact hn
     ·obtain ⟨h3, h4⟩ := big2 hi' hn hOi
      exact (mine h3 h4 hn hb').elim
   ·obtain ⟨h3, h4⟩ := big2 hj he hb
    obtain ⟨k1, k2, k3⟩ := hi.big j d2 h3 b h4
    refine ⟨Nat.lt_of_lt_of_le k1 hsz, fun i o hi' hd hp => ?_, fun i d4 hi' hOi => ?_⟩
    ·obtain ⟨o2, h2, d2'⟩ := key hi' hd
     exact k2 i o2 h2 d2' hp
    ·by_cases hn : i = id
     ·subst hn
      have hO' : Ω' b := by simpa using hOi
      exact (mine h3 h4 he hO').elim
     ·obtain ⟨h5, h6⟩ := big2 hi' hn hOi
      exact k3 i d4 h5 h6 }
theorem lines_put {w w' : World} {S S' : Nat → Nat → Prop} {Ω Ω' : Nat → Prop} {l : Nat → Option (List (List UInt8))} {es : Array MapEntry} {clock : Nat} {b : Nat} {f t : Int} {u : Value} {ms : List (List UInt8)} (hl : isLine f t = true)
  (k3 : Ents es.toList clock (fun k => (l k).isSome) (fun k v => RowAlone w S Ω v ((l k).getD []))) (k4 : es.toList.Pairwise fun a c => rowBlk a.val ≠ rowBlk c.val)
  (hkeep : ∀ (v : Value) (m : List (List UInt8)), (∀ e ∈ es.toList, e.key = lnKey f t → rowBlk v ≠ rowBlk e.val) → RowAlone w S Ω v m → RowAlone w' S' Ω' v m)
  (hblk : ∀ a ∈ es.toList, a.key ≠ lnKey f t → rowBlk a.val ≠ rowBlk u) (hmine : RowAlone w' S' Ω' u ms) {es' : Array MapEntry} {clock' : Nat} (hb : w'.heap[b]? = some (.map es' clock'))
  (hes : (es' = es.push { key := lnKey f t, val := u, born := clock } ∧ clock' = clock + 1 ∧ ∀ e ∈ es.toList, e.key ≠ lnKey f t) ∨ ∃ j e, es.toList[j]? = some e ∧ e.key = lnKey f t ∧ clock' = clock ∧ es' = es.modify j fun e => { e with key := lnKey f t, val := u }) :
  LinesAt (upd1 l (lnIx f t) (some ms)) w' S' b Ω' := by
 have other : ∀ {f' t' : Int}, isLine f' t' = true → lnKey f' t' ≠ lnKey f t → upd1 l (lnIx f t) (some ms) (lnIx f' t') = l (lnIx f' t') := fun {f' t'} h1 h2 => by
  unfold upd1
  rw [if_neg fun h => h2 (by obtain ⟨rfl, rfl⟩ := lnIx_inj h1 hl h; rfl)]
 have self : upd1 l (lnIx f t) (some ms) (lnIx f t) = some ms := if_pos rfl
 have apart : ∀ {a : MapEntry}, a ∈ es.toList → a.key ≠ lnKey f t → ∀ e ∈ es.toList, e.key = lnKey f t → rowBlk a.val ≠ rowBlk e.val := fun {a} ha hne e he hk => by
  obtain ⟨i, hi⟩ := List.getElem?_of_mem ha
  obtain ⟨j, hj⟩ := List.getElem?_of_mem he
  obtain ⟨hi', hi⟩ := List.getElem?_eq_some_iff.1 hi
  obtain ⟨hj', hj⟩ := List.getElem?_eq_some_iff.1 hj
  rcases Nat.lt_trichotomy i j with h | h | h
  ·have := List.pairwise_iff_getElem.1 k4 i j hi' hj' h
   rwa [hi, hj] at this
  ·subst h
   rw [hi] at hj
   exact absurd (hj ▸ hk) hne
  ·have := List.pairwise_iff_getElem.1 k4 j i hj' hi' h
   rw [hi, hj] at this
   exact this.symm
 have keepE : ∀ {a : MapEntry}, a ∈ es.toList → a.key ≠ lnKey f t → ∃ f' t', isLine f' t' = true ∧ a.key = lnKey f' t' ∧ (upd1 l (lnIx f t) (some ms) (lnIx f' t')).isSome ∧ RowAlone w' S' Ω' a.val ((upd1 l (lnIx f t) (some ms) (lnIx f' t')).getD []) := fun {a} ha hne => by
  obtain ⟨f', t', q1, q2, q3, q4⟩ := k3.key a ha
  have ho := other q1 (q2 ▸ hne)
  exact ⟨f', t', q1, q2, by rw [ho]; exact q3, by rw [ho]; exact hkeep _ _ (apart ha hne) q4⟩
 rcases hes with ⟨rfl, rfl, h2⟩ | ⟨j, en, h2, h3, rfl, rfl⟩
 ·refine ⟨_, _, hb, ⟨fun a ha => ?_, fun f' t' q1 q2 => ?_, ?_, ?_, fun a ha => ?_⟩, ?_⟩
  ·simp only [Array.toList_push, List.mem_append, List.mem_singleton] at ha
   rcases ha with ha | rfl
   ·exact keepE ha (h2 a ha)
   ·exact ⟨f, t, hl, rfl, by rw [self]; rfl, by rw [self]; exact hmine⟩
  ·by_cases c : lnKey f' t' = lnKey f t
   ·exact ⟨_, by simp only [Array.toList_push, List.mem_append, List.mem_singleton]; exact .inr rfl, c.symm⟩
   ·rw [other q1 c] at q2
    obtain ⟨a, ha, q3⟩ := k3.all f' t' q1 q2
    exact ⟨a, by simp [ha], q3⟩
  ·simp only [Array.toList_push]
   exact List.pairwise_append.2 ⟨k3.one, by simp, fun a ha c hc => by simp only [List.mem_singleton] at hc; subst hc; exact h2 a ha⟩
  ·simp only [Array.toList_push]
   exact List.pairwise_append.2 ⟨k3.born, by simp, fun a ha c hc => by simp only [List.mem_singleton] at hc; subst hc; have := k3.old a ha; simp only; omega⟩
  ·simp only [Array.toList_push, List.mem_append, List.mem_singleton] at ha
   rcases ha with ha | rfl
   ·have := k3.old a ha; omega
   ·exact Nat.lt_succ_self _
  ·simp only [Array.toList_push]
   exact List.pairwise_append.2 ⟨k4, by simp, fun a ha c hc => by simp only [List.mem_singleton] at hc; subst hc; exact hblk a ha (h2 a ha)⟩
 ·have hmem := List.mem_of_getElem? h2
  have hpw : ∀ a ∈ es.toList, rowBlk a.val ≠ rowBlk en.val → a.key ≠ lnKey f t := fun a ha hne hk => by
   obtain ⟨i, hi⟩ := List.getElem?_of_mem ha
   have := pw_key k3.one hi h2 (hk.trans h3.symm)
   subst this
   rw [hi] at h2
   injection h2 with h2
   exact hne (by rw [h2])
  refine ⟨_, _, hb, ⟨fun a ha => ?_, fun f' t' q1 q2 => ?_, ?_, ?_, fun a ha => ?_⟩, ?_⟩
  ·rcases mem_modify h2 k3.one ha with rfl | ⟨ha, hne⟩
   ·exact ⟨f, t, hl, rfl, by rw [self]; rfl, by rw [self]; exact hmine⟩
   ·exact keepE ha (h3 ▸ hne)
  ·by_cases c : lnKey f' t' = lnKey f t
   ·rcases modify_mem (F := fun e => { e with key := lnKey f t, val := u }) h2 hmem with h4 | ⟨_, h4⟩
    ·exact ⟨en, h4, by rw [h3, c]⟩
    ·exact ⟨_, h4, c.symm⟩
   ·rw [other q1 c] at q2
    obtain ⟨a, ha, q3⟩ := k3.all f' t' q1 q2
    rcases modify_mem (F := fun e => { e with key := lnKey f t, val := u }) h2 ha with h4 | ⟨rfl, _⟩
    ·exact ⟨a, h4, q3⟩
    ·exact absurd (q3.symm.trans h3) c
  ·exact pw_modify h2 k3.one (fun a _ h => h3 ▸ h) (fun a _ h => h3 ▸ h)
  ·exact pw_modify h2 k3.born (fun a _ h => h) (fun a _ h => h)
  ·rcases mem_modify h2 k3.one ha with rfl | ⟨ha, _⟩
   ·exact k3.old en hmem
   ·exact k3.old a ha
  ·exact pw_modify h2 k4 (fun a ha h => hblk a ha (hpw a ha h)) (fun a ha h => fun he => hblk a ha (hpw a ha h.symm) he.symm)
end Go.Proofs.Ytdgfbfkjdflabaa
namespace Go.Proofs.Ytdgfbfkjdflabaa
open Go.Ev
open Go.WideShapes Go.ChangeMaps
theorem und64 : Try.prog.underlying 64 = some (.slice 29) := by kernel_rfl
theorem tel29 : TElem Try.prog 29 1 24 [.slice none 0 0] := telem_ok (by kernel_rfl)
theorem und64' : ∃ d, Try.prog.underlying 64 = some d ∧ ∀ k, d ≠ .int k := ⟨_, und64, fun k h => by cases h⟩
theorem estore_run {w : World} {b : Nat} {es : Array MapEntry} {c : Nat} {s j : Nat} {u : Value} {e : MapEntry} (hb : w.heap[b]? = some (.map es c)) (hj : es.toList[j]? = some e) (hs : e.born = s) (hpw : es.toList.Pairwise fun a c => a.born ≠ c.born) :
  (Instr.entryStore 56 (.map (some b)) (goInt s) u).run Try.prog w = .ok () (setBlock w b (.map (es.modify j fun e => { e with val := u }) c)) := by
 have hf : es.findIdx? (fun e => (e.born : Int) == (s : Int)) = some j := by
  rw [Array.findIdx?_eq_some_iff_getElem]
  obtain ⟨h1, h2⟩ := List.getElem?_eq_some_iff.1 hj
  have h1' : j < es.size := by simpa using h1
  have h2' : es[j] = e := by simpa using h2
  refine ⟨h1', by rw [h2']; simp [hs], fun i hi => ?_⟩
  have h3 := List.pairwise_iff_getElem.1 hpw i j (by simp; omega) h1 hi
  have h4 : es[i].born ≠ es[j].born := by simpa using h3
  rw [h2', hs] at h4
  simp only [beq_iff_eq]
  omega
 have ha : (asInt (goInt s)).run Try.prog w = .ok (s : Int) w := rfl
 simp only [Instr.entryStore, Sem.run_bind, MapKept.run_getObj_map hb, Result.andThen_ok, ha, hf, MapKept.run_setObj_map _ hb]
 rfl
theorem modify_last {α : Type} (f : α → α) (a : α) : ∀ l : List α, (l ++ [a]).modify l.length f = l ++ [f a]
 | [] => rfl
 | b :: l => by simp [modify_last f a l]
theorem ment_run {w : World} {b : Nat} {es : Array MapEntry} {clock : Nat} {k : Value} (hb : w.heap[b]? = some (.map es clock)) (hes : ∀ e ∈ es.toList, ∃ l, keyOf Try.prog 60 e.key = some l) (hk : ∃ l, keyOf Try.prog 60 k = some l) :
  ((Instr.mapEntry 56 (.map (some b)) k).run Try.prog w = .ok (.tuple #[.slice none 0 0, goInt clock]) (setBlock w b (.map (es.push { key := k, val := .slice none 0 0, born := clock }) (clock + 1))) ∧ ∀ e ∈ es.toList, e.key ≠ k) ∨
  ∃ j e, es.toList[j]? = some e ∧ e.key = k ∧ (Instr.mapEntry 56 (.map (some b)) k).run Try.prog w = .ok (.tuple #[e.val, goInt e.born]) (setBlock w b (.map (es.modify j fun e => { e with key := k }) clock)) := by
 obtain ⟨lk, hk⟩ := hk
 rcases kLaw.find w hk es.toList hes with ⟨h1, h2⟩ | ⟨j, e, h1, h2, h3⟩
 ·exact .inl ⟨by simp [Instr.mapEntry, run_underlying und56, MapKept.run_getObj_map hb, kLaw.check w false hk, h1, zero64, MapKept.run_setObj_map _ hb, Result.andThen, setBlock], h2⟩
 ·have hj : es[j]? = some e := by simpa using h2
  refine .inr ⟨j, e, h2, h3, ?_⟩
  simp [Instr.mapEntry, run_underlying und56, MapKept.run_getObj_map hb, kLaw.check w false hk, h1, hj, h3, kLaw.stays w hk, MapKept.run_setObj_map _ hb, Result.andThen, setBlock]
theorem ment_store {w : World} {b : Nat} {es : Array MapEntry} {clock : Nat} {k : Value} (hb : w.heap[b]? = some (.map es clock)) (hes : ∀ e ∈ es.toList, ∃ l, keyOf Try.prog 60 e.key = some l) (hk : ∃ l, keyOf Try.prog 60 k = some l)
  (hborn : es.toList.Pairwise fun a c => a.born ≠ c.born) (hold : ∀ e ∈ es.toList, e.born < clock) :
  ∃ (v : Value) (s : Nat) (es1 : Array MapEntry) (c1 : Nat), (Instr.mapEntry 56 (.map (some b)) k).run Try.prog w = .ok (.tuple #[v, goInt s]) (setBlock w b (.map es1 c1)) ∧
  ((v = .slice none 0 0 ∧ ∀ e ∈ es.toList, e.key ≠ k) ∨ ∃ e ∈ es.toList, e.key = k ∧ v = e.val) ∧
  ∀ (u : Value) (w2 : World), w2.heap[b]? = some (.map es1 c1) → ∃ es' c', (Instr.entryStore 56 (.map (some b)) (goInt s) u).run Try.prog w2 = .ok () (setBlock w2 b (.map es' c')) ∧
   ((es' = es.push { key := k, val := u, born := clock } ∧ c' = clock + 1 ∧ ∀ e ∈ es.toList, e.key ≠ k) ∨ ∃ j e, es.toList[j]? = some e ∧ e.key = k ∧ c' = clock ∧ es' = es.modify j fun e => { e with key := k, val := u }) := by
 rcases ment_run hb hes hk with ⟨h1, h2⟩ | ⟨j, e, h2, h3, h1⟩
 ·refine ⟨_, _, _, _, h1, .inl ⟨rfl, h2⟩, fun u w2 hw => ⟨_, _, estore_run (j := es.size) (e := { key := k, val := .slice none 0 0, born := clock }) hw (by simp) rfl ?_, .inl ⟨?_, rfl, h2⟩⟩⟩
  ·simp only [Array.toList_push]
   exact List.pairwise_append.2 ⟨hborn, by simp, fun a ha c hc => by simp only [List.mem_singleton] at hc; subst hc; have := hold a ha; simp only; omega⟩
  ·apply Array.ext'
   rw [Array.toList_modify, Array.toList_push, Array.toList_push]
   exact modify_last _ _ es.toList
 ·refine ⟨_, _, _, _, h1, .inr ⟨e, List.mem_of_getElem? h2, h3, rfl⟩, fun u w2 hw => ⟨_, _, estore_run (j := j) (e := { e with key := k }) hw ?_ rfl ?_, .inr ⟨j, e, h2, h3, rfl, ?_⟩⟩⟩
  ·rw [Array.toList_modify, List.getElem?_modify, h2]
   simp
  ·exact pw_modify h2 hborn (fun a _ h => h) (fun a _ h => h)
  ·apply Array.ext'
   rw [Array.toList_modify, Array.toList_modify, Array.toList_modify, List.modify_modify_eq]
   rfl
theorem one_src {w w' : World} {S : Nat → Nat → Prop} {c : C} {u : Value} (hu : Rep w S (.sl [[c]]) u) (hc : ∀ b o, S b o → w'.cell? ⟨b, o, none⟩ = w.cell? ⟨b, o, none⟩) : ∃ vv, Src Try.prog w' 1 u 1 [vv] ∧ Rep w S c vv := by
 generalize hl : C.sl [[c]] = z at hu
 cases hu with
 | sc v h => cases hl
 | nil => cases hl
 | sl l sz b o cap vals hne hsz hcap hcc hr =>
  injection hl with hl
  subst hl
  have hs : sz = 1 := (hsz [c] (by simp)).symm
  subst hs
  refine ⟨vals 0, ⟨fun w2 => rfl, fun w2 hw2 => ?_⟩, by simpa using hr 0 0 [c] c rfl rfl⟩
  have h0 := hcc 0 (by simp)
  refine run_firstCells_some w2 1 1 ⟨b, o, none⟩ 1 cap _ (by simp) fun j v hv => ?_
  match j, hv with
  | 0, hv =>
   simp only [List.getElem?_cons_zero, Option.some.injEq] at hv
   subst hv
   rw [Addr.add_lit, ← h0.2, ← hc _ _ h0.1]
   simp only [World.cell?, hw2]
  | j + 1, hv => simp at hv
end Go.Proofs.Ytdgfbfkjdflabaa
namespace Go.Proofs.Ytdgfbfkjdflabaa
open Go.Ev
open Go.WideShapes Go.ChangeMaps
theorem RowAlone.at_ {w : World} {S : Nat → Nat → Prop} {Ω : Nat → Prop} {v : Value} {ms : List (List UInt8)} (h : RowAlone w S Ω v ms) : ∃ cap arr e, v = .slice (some ⟨rowBlk v, 0, none⟩) ms.length cap ∧ Ω (rowBlk v) ∧ w.heap[rowBlk v]? = some (.cells arr e (0, 0)) ∧ arr.size = cap ∧ ms.length ≤ cap ∧ cap ≤ maxLen ∧ (∀ u ∈ arr, u.oneCell' = true) ∧
  (∀ j, j < ms.length → S (rowBlk v) j) ∧ (∀ j, ms.length ≤ j → ¬ S (rowBlk v) j) ∧ ∀ (i : Nat) (m : List UInt8), ms[i]? = some m → ∃ u, arr[i]? = some u ∧ Rep w S (.sl (eB m)) u := by
 obtain ⟨b, cap, arr, e, rfl, k⟩ := h
 exact ⟨cap, arr, e, rfl, k⟩
theorem setRow_wrote {w : World} {g : Nat} {cur arr : Array Value} {e : TypeId} (hg : w.heap[g]? = some (.cells cur e (0, 0))) : Wrote w (w.setRow g arr) g arr e := wrote_setRow hg
theorem app_line {w : World} {S : Nat → Nat → Prop} {Ω : Nat → Prop} {v u : Value} {ms : List (List UInt8)} {m : List UInt8} (hv : v = .slice none 0 0 ∧ ms = [] ∨ RowAlone w S Ω v ms) (hu : ∃ vv, Src Try.prog w 1 u 1 [vv] ∧ Rep w S (.sl (eB m)) vv) (hlen : ms.length < 64) (hS : ∀ b o, S b o → b < w.heap.size) :
    ∃ r w2, (Builtin.append_ #[64, 64] 64 #[v, u]).run Try.prog w = .ok r w2 ∧
      ((∃ arr e, RowAlone w S Ω v ms ∧ Wrote w w2 (rowBlk v) arr e ∧ rowBlk r = rowBlk v ∧ (∀ o, S (rowBlk v) o → w2.cell? ⟨rowBlk v, o, none⟩ = w.cell? ⟨rowBlk v, o, none⟩) ∧ RowAlone w2 (fun b o => S b o ∨ (b = rowBlk v ∧ o = ms.length)) Ω r (ms ++ [m])) ∨
       (∃ arr, Made w w2 arr 29 (0, 0) ∧ rowBlk r = w.heap.size ∧ RowAlone w2 (fun b o => S b o ∨ (b = w.heap.size ∧ o ≤ ms.length)) (fun b => Ω b ∨ b = w.heap.size) r (ms ++ [m]))) := by
  obtain ⟨vv, hsrc, hrep⟩ := hu
  have hone := hrep.one
  have grow : ∀ (base : Option Addr) (cap : Nat) (olds : List Value), v = .slice base ms.length cap → (∀ w' : World, w'.heap = w.heap → (Builtin.firstCells 1 ms.length (.slice base ms.length cap)).run Try.prog w' = .ok olds.toArray w') → olds.length = ms.length → (∀ (i : Nat) (n : List UInt8), ms[i]? = some n → ∃ u, olds[i]? = some u ∧ Rep w S (.sl (eB n)) u) → (∀ q ∈ olds, q.oneCell' = true) → cap < ms.length + 1 →
      ∃ r w2, (Builtin.append_ #[64, 64] 64 #[v, u]).run Try.prog w = .ok r w2 ∧ ∃ arr, Made w w2 arr 29 (0, 0) ∧ rowBlk r = w.heap.size ∧ RowAlone w2 (fun b o => S b o ∨ (b = w.heap.size ∧ o ≤ ms.length)) (fun b => Ω b ∨ b = w.heap.size) r (ms ++ [m]) := fun base cap olds hvv hold hol hor hoo hc => by
    obtain ⟨nc, n1, n2, zc, z1, z2, hrun⟩ := append_grow (ty := 64) und64 und64' tel29 hsrc hold hc (by omega) (by omega)
    have hmd : Made w (w.drew.alloc (.cells (olds ++ [vv] ++ zc).toArray 29)) (olds ++ [vv] ++ zc).toArray 29 (0, 0) := ⟨rfl, rfl, rfl, rfl, fun o _ h => by omega⟩
    rw [hvv]
    refine ⟨_, _, hrun, _, hmd, rfl, w.heap.size, nc, _, 29, by simp, .inr rfl, hmd.new, by simp; omega, by simpa using n1, n2, fun q hq => ?_, fun j hj => .inr ⟨rfl, by simp at hj; omega⟩, fun j hj hs => ?_, fun i n hn => ?_⟩
    · simp only [List.mem_toArray, List.mem_append, List.mem_singleton] at hq
      rcases hq with (hq | rfl) | hq
      · exact hoo q hq
      · exact hone
      · exact z1 q hq
    · simp only [List.length_append, List.length_singleton] at hj
      rcases hs with hs | hs
      · have := hS _ _ hs; omega
      · omega
    · have up : ∀ {c : C} {q : Value}, Rep w S c q → Rep (w.drew.alloc (.cells (olds ++ [vv] ++ zc).toArray 29)) (fun b o => S b o ∨ (b = w.heap.size ∧ o ≤ ms.length)) c q := fun {c q} hr => hr.mono fun b o hs => ⟨.inl hs, hmd.cell (hS b o hs)⟩
      by_cases c : i < ms.length
      · rw [List.getElem?_append_left c] at hn
        obtain ⟨q, q1, q2⟩ := hor i n hn
        refine ⟨q, ?_, up q2⟩
        simp only [List.getElem?_toArray]
        rw [List.append_assoc, List.getElem?_append_left (by omega)]
        exact q1
      · have hi : i = ms.length := by
          have := (List.getElem?_eq_some_iff.1 hn).1
          simp at this; omega
        subst hi
        simp at hn
        subst hn
        refine ⟨vv, ?_, up hrep⟩
        simp only [List.getElem?_toArray]
        rw [List.append_assoc, List.getElem?_append_right (by omega), hol]
        simp
  rcases hv with ⟨hv, hms⟩ | hv
  · subst hms
    obtain ⟨r, w2, h1, h2⟩ := grow none 0 [] hv (fun w' _ => run_firstCells_none _ _ _ _ _) rfl (fun i n hn => by simp at hn) (fun q hq => by simp at hq) (by simp)
    exact ⟨r, w2, h1, .inr h2⟩
  · obtain ⟨cap, arr, e, k1, k2, k3, k4, k5, k6, k7, k8, k9, k10⟩ := hv.at_
    by_cases hroom : ms.length + 1 ≤ cap
    · have hrun := append_room (ty := 64) und64 und64' tel29 hsrc k3 (n := ms.length) (cap := cap) hroom (by simp; omega) (by simpa using hone)
      simp only [Nat.mul_one] at hrun
      have hwr := setRow_wrote (arr := (arr.toList.take (ms.length) ++ [vv] ++ arr.toList.drop (ms.length + [vv].length)).toArray) k3
      have hcell : ∀ o, S (rowBlk v) o → (w.setRow (rowBlk v) (arr.toList.take (ms.length) ++ [vv] ++ arr.toList.drop (ms.length + [vv].length)).toArray).cell? ⟨rowBlk v, o, none⟩ = w.cell? ⟨rowBlk v, o, none⟩ := fun o ho => by
        have hlt : o < ms.length := Nat.lt_of_not_le fun h => k9 o h ho
        simp only [World.cell?, hwr.new, k3]
        simp only [List.getElem?_toArray]
        rw [List.append_assoc, List.getElem?_append_left (by simp; omega), List.getElem?_take, if_pos hlt]
        simp
      have hblk : (Value.slice (some ⟨rowBlk v, 0, none⟩) (ms.length + 1) cap) = .slice (some ⟨rowBlk v, 0, none⟩) (ms ++ [m]).length cap := by simp
      refine ⟨.slice (some ⟨rowBlk v, 0, none⟩) (ms.length + 1) cap, _, by rw [show (#[v, u] : Array Value) = #[.slice (some ⟨rowBlk v, 0, none⟩) ms.length cap, u] by rw [← k1]]; exact hrun, .inl ⟨_, _, hv, hwr, rfl, hcell, rowBlk v, cap, _, e, hblk, k2, hwr.new, ?_, by simpa using hroom, k6, fun q hq => ?_, fun j hj => ?_, fun j hj hs => ?_, fun i n hn => ?_⟩⟩
      · simp; omega
      · simp only [List.mem_toArray, List.mem_append, List.mem_singleton] at hq
        rcases hq with (hq | rfl) | hq
        · exact k7 q (by simpa using List.mem_of_mem_take hq)
        · exact hone
        · exact k7 q (by simpa using List.mem_of_mem_drop hq)
      · simp only [List.length_append, List.length_singleton] at hj
        by_cases c : j = ms.length
        · exact .inr ⟨rfl, c⟩
        · exact .inl (k8 j (by omega))
      · simp only [List.length_append, List.length_singleton] at hj
        rcases hs with hs | hs
        · exact k9 j (by omega) hs
        · omega
      · have up : ∀ {c : C} {q : Value}, Rep w S c q → Rep (w.setRow (rowBlk v) (arr.toList.take (ms.length) ++ [vv] ++ arr.toList.drop (ms.length + [vv].length)).toArray) (fun b o => S b o ∨ (b = rowBlk v ∧ o = ms.length)) c q := fun {c q} hr => hr.mono fun b o hs => ⟨.inl hs, by
          by_cases he : b = rowBlk v
          · subst he; exact hcell o hs
          · simp only [World.cell?, hwr.old b he]⟩
        simp only [List.getElem?_toArray]
        by_cases c : i < ms.length
        · rw [List.getElem?_append_left c] at hn
          obtain ⟨q, q1, q2⟩ := k10 i n hn
          refine ⟨q, ?_, up q2⟩
          rw [List.append_assoc, List.getElem?_append_left (by simp; omega), List.getElem?_take, if_pos c]
          simpa using q1
        · have hi : i = ms.length := by
            have := (List.getElem?_eq_some_iff.1 hn).1
            simp at this; omega
          subst hi
          simp at hn
          subst hn
          refine ⟨vv, ?_, up hrep⟩
          rw [List.append_assoc, List.getElem?_append_right (by simp; omega)]
          simp [Nat.min_eq_left (show ms.length ≤ arr.size by omega)]
    · obtain ⟨r, w2, h1, h2⟩ := grow (some ⟨rowBlk v, 0, none⟩) cap (arr.toList.take ms.length) k1 (fun w' hw' => run_firstCells_some w' 1 ms.length _ _ _ _ (by simp; omega) fun j q hq => by
          rw [List.getElem?_take] at hq
          split at hq
          · rw [Addr.add_lit, Nat.zero_add]
            simp only [World.cell?, hw', k3]
            simpa using hq
          · simp at hq) (by simp; omega) (fun i n hn => by
        obtain ⟨q, q1, q2⟩ := k10 i n hn
        have := (List.getElem?_eq_some_iff.1 hn).1
        exact ⟨q, by rw [List.getElem?_take, if_pos this]; simpa using q1, q2⟩) (fun q hq => k7 q (by simpa using List.mem_of_mem_take hq)) (by omega)
      exact ⟨r, w2, h1, .inr h2⟩
end Go.Proofs.Ytdgfbfkjdflabaa
namespace Go.Proofs.Ytdgfbfkjdflabaa
open Go.Ev
open Go.WideShapes Go.ChangeMaps
theorem nf_wrote {w w' : World} {g : Nat} {arr : Array Value} {e : TypeId} (hw : Wrote w w' g arr e) {N : Nat} (hn : NF N w) : NF N w' :=
 NF.cells hw.new (fun o _ h => by omega) (fun b hb => .inl (hw.old b hb)) hn
theorem add_line {x : Cx} {h : Heap} {id : Nat} {l : Nat → Option (List (List UInt8))} {f t : Int} {m : List UInt8} {u : Value} (hi : Inv G0 x h) (hg : getO h id = some (.big (.lines l))) (hl : isLine f t = true) (hlen : ((l (lnIx f t)).getD []).length < 64) (hu : Rep x.w x.S (.sl [[.sl (eB m)]]) u) :
  ∃ (v : Value) (s : Nat) (w1 : World), (Instr.mapEntry 56 (.map (some (x.φ id))) (lnKey f t)).run Try.prog x.w = .ok (.tuple #[v, goInt s]) w1 ∧
  ∃ r w2, (Builtin.append_ #[64, 64] 64 #[v, u]).run Try.prog w1 = .ok r w2 ∧
  ∃ w3, (Instr.entryStore 56 (.map (some (x.φ id))) (goInt s) r).run Try.prog w2 = .ok () w3 ∧
  ∃ x' : Cx, x'.w = w3 ∧ Inv G0 x' (h.set id (some (.big (.lines (upd1 l (lnIx f t) (some ((l (lnIx f t)).getD [] ++ [m]))))))) ∧
   Step (fun _ => True) x h x' (h.set id (some (.big (.lines (upd1 l (lnIx f t) (some ((l (lnIx f t)).getD [] ++ [m]))))))) := by
 obtain ⟨es, clock, k1, k3, k4⟩ := lines_of hi hg
 have hk := key_of f t (line_in hl).1 (line_in hl).2
 obtain ⟨v, s, es1, c1, hrun, hv, hstore⟩ := ment_store k1 (keys_of k3) hk k3.born k3.old
 generalize hms : (l (lnIx f t)).getD [] = ms at *
 have hO : ∀ {c : Nat}, x.Ω id c → c < x.w.heap.size ∧ c ≠ x.φ id := fun {c} hc => by
  obtain ⟨q1, q2, _⟩ := hi.big id _ hg c hc
  exact ⟨q1, fun he => q2 id _ hg (by simp) he.symm⟩
 have own0 : ∀ q, ¬ x.S (x.φ id) q := hi.own id _ hg trivial
 have hlt0 : x.φ id < x.w.heap.size := (Array.getElem?_eq_some_iff.1 k1).1
 generalize hw1 : setBlock x.w (x.φ id) (.map es1 c1) = w1 at hrun
 have hsz1 : w1.heap.size = x.w.heap.size := by rw [← hw1]; exact set_size _ _ _
 have old1 : ∀ c, c ≠ x.φ id → w1.heap[c]? = x.w.heap[c]? := fun c hc => by rw [← hw1]; exact set_old _ _ _ hc
 have new1 : w1.heap[x.φ id]? = some (.map es1 c1) := by rw [← hw1]; exact set_new k1
 have cell1 : ∀ b o, x.S b o → w1.cell? ⟨b, o, none⟩ = x.w.cell? ⟨b, o, none⟩ := fun b o hs => by
  have : b ≠ x.φ id := fun he => own0 o (he ▸ hs)
  simp only [World.cell?, old1 b this]
 have nf1 : ∀ N, NF N x.w → NF N w1 := fun N hn => by rw [← hw1]; exact nf_set k1 hn
 have up1 : ∀ {q : Value} {z : List (List UInt8)}, RowAlone x.w x.S (x.Ω id) q z → RowAlone w1 x.S (x.Ω id) q z := fun {q z} hr => hr.mono (fun c hc => old1 c (hO hc).2) (fun b o hs => ⟨hs, cell1 b o hs⟩) fun c o _ hs => hs
 have hv1 : v = .slice none 0 0 ∧ ms = [] ∨ RowAlone w1 x.S (x.Ω id) v ms := by
  rcases hv with ⟨rfl, hv⟩ | ⟨e, he, hke, rfl⟩
  ·refine .inl ⟨rfl, ?_⟩
   cases hll : l (lnIx f t) with
   | none => rw [hll] at hms; exact hms.symm
   | some z =>
    obtain ⟨e, he, hke⟩ := k3.all f t hl (by rw [hll]; rfl)
    exact absurd hke (hv e he)
  ·obtain ⟨f', t', q1, q2, q3, q4⟩ := k3.key e he
   obtain ⟨rfl, rfl⟩ := lnKey_inj (q2.symm.trans hke)
   rw [hms] at q4
   exact .inr (up1 q4)
 have hS1 : ∀ b o, x.S b o → b < w1.heap.size := fun b o hs => by rw [hsz1]; exact hi.sh b o hs
 obtain ⟨vv, hsrc, hrp⟩ := one_src hu cell1
 obtain ⟨r, w2, happ, hcase⟩ := app_line hv1 ⟨vv, hsrc, hrp.mono fun b o hs => ⟨hs, cell1 b o hs⟩⟩ hlen hS1
 refine ⟨v, s, w1, hrun, r, w2, happ, ?_⟩
 have apart : ∀ {a : MapEntry}, a ∈ es.toList → a.key ≠ lnKey f t → RowAlone w1 x.S (x.Ω id) v ms → v ≠ .slice none 0 0 → rowBlk a.val ≠ rowBlk v := fun {a} ha hne hr hnn => by
  rcases hv with ⟨hv, _⟩ | ⟨e, he, hke, rfl⟩
  ·exact absurd hv hnn
  ·obtain ⟨i, hi'⟩ := List.getElem?_of_mem ha
   obtain ⟨j, hj⟩ := List.getElem?_of_mem he
   obtain ⟨hi2, hi'⟩ := List.getElem?_eq_some_iff.1 hi'
   obtain ⟨hj2, hj⟩ := List.getElem?_eq_some_iff.1 hj
   rcases Nat.lt_trichotomy i j with h | h | h
   ·have := List.pairwise_iff_getElem.1 k4 i j hi2 hj2 h
    rwa [hi', hj] at this
   ·subst h
    rw [hi'] at hj
    exact absurd (hj ▸ hke) hne
   ·have := List.pairwise_iff_getElem.1 k4 j i hj2 hi2 h
    rw [hi', hj] at this
    exact this.symm
 rcases hcase with ⟨arr, e, hra, hwr, hrb, hcell, hnew⟩ | ⟨arr, hmd, hrb, hnew⟩
 ·-- in its place
  obtain ⟨cap, arr0, e0, p1, p2, p3, _⟩ := hra.at_
  have hvn : v ≠ .slice none 0 0 := by rw [p1]; simp
  obtain ⟨hg1, hg2⟩ := hO p2
  have hb2 : w2.heap[x.φ id]? = some (.map es1 c1) := (hwr.old _ (Ne.symm hg2)).trans new1
  obtain ⟨es', c', hst, hes⟩ := hstore r w2 hb2
  refine ⟨_, hst, ?_⟩
  have hsz3 : (setBlock w2 (x.φ id) (.map es' c')).heap.size = x.w.heap.size := by rw [set_size, hwr.size, hsz1]
  have old3 : ∀ c, c ≠ x.φ id → c ≠ rowBlk v → (setBlock w2 (x.φ id) (.map es' c')).heap[c]? = x.w.heap[c]? := fun c h1 h2 => (set_old _ _ _ h1).trans ((hwr.old c h2).trans (old1 c h1))
  have cell3 : ∀ b o, x.S b o → (setBlock w2 (x.φ id) (.map es' c')).cell? ⟨b, o, none⟩ = x.w.cell? ⟨b, o, none⟩ := fun b o hs => by
   have hne : b ≠ x.φ id := fun he => own0 o (he ▸ hs)
   by_cases hr : b = rowBlk v
   ·subst hr
    rw [← cell1 _ o hs, ← hcell o hs]
    simp only [World.cell?, set_old _ _ _ hne]
   ·simp only [World.cell?, old3 b hne hr]
  have hrel : LinesAt (upd1 l (lnIx f t) (some (ms ++ [m]))) (setBlock w2 (x.φ id) (.map es' c')) (fun b o => x.S b o ∨ (b = rowBlk v ∧ o = ms.length)) (x.φ id) (x.Ω id) := by
   refine lines_put hl k3 k4 (fun q z hq hr => ?_) (fun a ha hne => by rw [hrb]; exact apart ha hne hra hvn) ?_ (set_new hb2) hes
   ·have hqv : rowBlk q ≠ rowBlk v := by
     rcases hv with ⟨hv, _⟩ | ⟨e, he, hke, rfl⟩
     ·exact absurd hv hvn
     ·exact hq e he hke
    obtain ⟨cap', arr', e', r1, r2, r3, r4, r5, r6, r7, r8, r9, r10⟩ := hr.at_
    refine ⟨rowBlk q, cap', arr', e', r1, r2, (old3 _ (hO r2).2 hqv).trans r3, r4, r5, r6, r7, fun j hj => .inl (r8 j hj), fun j hj hs => hs.elim (r9 j hj) fun h => hqv h.1, fun i n hn => ?_⟩
    obtain ⟨y, y1, y2⟩ := r10 i n hn
    exact ⟨y, y1, y2.mono fun b o hs => ⟨.inl hs, cell3 b o hs⟩⟩
   ·refine hnew.mono (fun c hc => set_old _ _ _ (hO hc).2) (fun b o hs => ⟨hs, ?_⟩) fun c o _ hs => hs
    have : b ≠ x.φ id := fun he => by
     rcases hs with hs | hs
     ·exact own0 o (he ▸ hs)
     ·exact hg2 (hs.1.symm.trans he)
    simp only [World.cell?, set_old _ _ _ this]
  obtain ⟨i1, i2⟩ := big_upd (d' := .lines (upd1 l (lnIx f t) (some (ms ++ [m])))) (S' := fun b o => x.S b o ∨ (b = rowBlk v ∧ o = ms.length)) (Ω' := x.Ω id) (w' := setBlock w2 (x.φ id) (.map es' c')) hi hg (Nat.le_of_eq hsz3.symm) (fun c hc hn hno => old3 c hn fun he => hno (he ▸ p2)) cell3 (fun b o hs => .inl hs) (fun b o hs => hs.elim .inl fun h => .inr (.inl (h.1 ▸ p2))) (fun c hc => .inl hc) hrel
   (by show w2.os = _; rw [hwr.os, ← hw1]; rfl) (by show w2.tape = _; rw [hwr.tape, ← hw1]; rfl) (by show w2.output = _; rw [hwr.output, ← hw1]; rfl) fun N hn => nf_set hb2 (nf_wrote hwr (nf1 N hn))
  exact ⟨_, rfl, i1, i2⟩
 ·-- in another block
  have hb2 : w2.heap[x.φ id]? = some (.map es1 c1) := (hmd.old (by rw [hsz1]; exact hlt0)).trans new1
  obtain ⟨es', c', hst, hes⟩ := hstore r w2 hb2
  refine ⟨_, hst, ?_⟩
  rw [hsz1] at hrb hnew
  have hsz2 : w2.heap.size = x.w.heap.size + 1 := by rw [hmd.size, hsz1]
  have hsz3 : (setBlock w2 (x.φ id) (.map es' c')).heap.size = x.w.heap.size + 1 := by rw [set_size, hsz2]
  have old3 : ∀ c, c < x.w.heap.size → c ≠ x.φ id → (setBlock w2 (x.φ id) (.map es' c')).heap[c]? = x.w.heap[c]? := fun c h1 h2 => (set_old _ _ _ h2).trans ((hmd.old (by rw [hsz1]; exact h1)).trans (old1 c h2))
  have cell3 : ∀ b o, x.S b o → (setBlock w2 (x.φ id) (.map es' c')).cell? ⟨b, o, none⟩ = x.w.cell? ⟨b, o, none⟩ := fun b o hs => by
   have hne : b ≠ x.φ id := fun he => own0 o (he ▸ hs)
   simp only [World.cell?, old3 b (hi.sh b o hs) hne]
  have hrel : LinesAt (upd1 l (lnIx f t) (some (ms ++ [m]))) (setBlock w2 (x.φ id) (.map es' c')) (fun b o => x.S b o ∨ (b = x.w.heap.size ∧ o ≤ ms.length)) (x.φ id) (fun b => x.Ω id b ∨ b = x.w.heap.size) := by
   refine lines_put hl k3 k4 (fun q z hq hr => ?_) (fun a ha hne => ?_) ?_ (set_new hb2) hes
   ·refine (hr.mono (w' := setBlock w2 (x.φ id) (.map es' c')) (S' := fun b o => x.S b o ∨ (b = x.w.heap.size ∧ o ≤ ms.length)) (fun c hc => old3 c (hO hc).1 (hO hc).2) (fun b o hs => ⟨.inl hs, cell3 b o hs⟩) fun c o hc hs => hs.elim (fun h => h) fun h => ?_).wide fun b hb => .inl hb
    have := (hO hc).1
    omega
   ·obtain ⟨_, _, _, _, _, q4⟩ := k3.key a ha
    have := (hO q4.blk).1
    omega
   ·refine hnew.mono (fun c hc => set_old _ _ _ ?_) (fun b o hs => ⟨hs, ?_⟩) fun c o _ hs => hs
    ·rcases hc with hc | hc
     ·exact (hO hc).2
     ·omega
    ·have : b ≠ x.φ id := fun he => by
      rcases hs with hs | hs
      ·exact own0 o (he ▸ hs)
      ·omega
     simp only [World.cell?, set_old _ _ _ this]
  obtain ⟨i1, i2⟩ := big_upd (d' := .lines (upd1 l (lnIx f t) (some (ms ++ [m])))) (S' := fun b o => x.S b o ∨ (b = x.w.heap.size ∧ o ≤ ms.length)) (Ω' := fun b => x.Ω id b ∨ b = x.w.heap.size) (w' := setBlock w2 (x.φ id) (.map es' c')) hi hg (by omega) (fun c hc hn hno => old3 c hc hn) cell3 (fun b o hs => .inl hs) (fun b o hs => hs.elim .inl fun h => .inr (.inr ⟨by omega, by omega⟩)) (fun c hc => hc.elim .inl fun h => .inr ⟨by omega, by omega⟩) hrel
   (by show w2.os = _; rw [hmd.os, ← hw1]; rfl) (by show w2.tape = _; rw [hmd.tape, ← hw1]; rfl) (by show w2.output = _; rw [hmd.output, ← hw1]; rfl) fun N hn => nf_set hb2 (hmd.nfw N (nf1 N hn))
  exact ⟨_, rfl, i1, i2⟩
end Go.Proofs.Ytdgfbfkjdflabaa
namespace Go.Proofs.Ytdgfbfkjdflabaa
open Go.Ev
open Go.WideShapes Go.ChangeMaps
noncomputable def bodyS : Code := match Try.f8.body with
 | some c => c
 | none => .skip
theorem bodyS_is : Try.f8.body = some bodyS := by kernel_rfl
abbrev pathS : List Nat := [1, 1, 0, 1, 0, 0, 1, 1, 0, 0, 1, 1, 1, 1]
noncomputable def ops9 : Array Oper := rOps (cAt bodyS pathS)
theorem ops9_size : ops9.size = 12 := by kernel_rfl
theorem reg9 : cAt bodyS pathS = .region (rId (cAt bodyS pathS)) ops9 true := by kernel_rfl
theorem guards9 : (ops9.toList.all fun o => o.guard.isNone) = true := by kernel_rfl
noncomputable def o9 (i : Nat) : Oper := ops9.toList.getD i default
theorem at9 {i : Nat} (h : i < 12) : ops9[i]? = some (o9 i) := by
 have h2 : i < ops9.size := by rw [ops9_size]; exact h
 simp [o9, h2]
theorem op9_7 : (o9 7).op = .mapEntry 56 (.tmp 52) (.tmp 53) := by kernel_rfl
theorem op9_8 : (o9 8).op = .extract (.tmp 57) 0 := by kernel_rfl
theorem op9_9 : (o9 9).op = .call { callee := .builtin .append, args := #[.tmp 54, .tmp 56], argTypes := #[64, 64] } := by kernel_rfl
theorem ty9_9 : (o9 9).type = 64 := by kernel_rfl
theorem op9_10 : (o9 10).op = .extract (.tmp 57) 1 := by kernel_rfl
theorem op9_11 : (o9 11).op = .entryStore 56 (.tmp 52) (.tmp 59) (.tmp 58) := by kernel_rfl
theorem dst9_7 : (o9 7).dst = some 57 := by kernel_rfl
theorem dst9_8 : (o9 8).dst = some 54 := by kernel_rfl
theorem dst9_9 : (o9 9).dst = some 58 := by kernel_rfl
theorem dst9_10 : (o9 10).dst = some 59 := by kernel_rfl
theorem dst9_11 : (o9 11).dst = none := by kernel_rfl
theorem guard9 {i : Nat} {p : Oper} (hp : ops9[i]? = some p) : p.guard = none := by
 have := List.all_eq_true.1 guards9 p (by
  have h4 : ops9.toList[i]? = some p := by simpa using hp
  exact List.mem_of_getElem? h4)
 simpa using this
theorem all9 : ((List.range 5).all fun i => ((o9 (i + 7)).after.toList.any fun e => decide (7 ≤ e.on) && Region.binds .any e) || (List.range 7).all fun j => (o9 (i + 7)).after.toList.any fun e => decide (e.on = j) && Region.binds .any e) = true := by kernel_rfl
theorem masks9 : masksOk ops9 (Region.before ops9).toList = true := by kernel_rfl
abbrev l9 (l : List Bool) : Array Bool := (List.replicate 7 true ++ l).toArray
theorem ready9a : Region.ready .any ops9 (l9 [o_,o_,o_,o_,o_]) = [7] := by kernel_rfl
theorem ready9b : Region.ready .any ops9 (l9 [i_,o_,o_,o_,o_]) = [8, 10] := by kernel_rfl
theorem ready9c : Region.ready .any ops9 (l9 [i_,i_,o_,o_,o_]) = [9, 10] := by kernel_rfl
theorem ready9d : Region.ready .any ops9 (l9 [i_,o_,o_,i_,o_]) = [8] := by kernel_rfl
theorem ready9e : Region.ready .any ops9 (l9 [i_,i_,i_,o_,o_]) = [10] := by kernel_rfl
theorem ready9f : Region.ready .any ops9 (l9 [i_,i_,o_,i_,o_]) = [9] := by kernel_rfl
theorem ready9g : Region.ready .any ops9 (l9 [i_,i_,i_,i_,o_]) = [11] := by kernel_rfl
theorem ready9h : Region.ready .any ops9 (l9 [i_,i_,i_,i_,i_]) = [] := by kernel_rfl
theorem any_step {P : Program} {ops : Array Oper} {Q : Exit → Act → World → Prop} {fuel : Nat} {listed : Array Bool} {a : Act} {w : World} {rs : List Nat} (hr : Region.ready .any ops listed = rs) (hne : rs ≠ []) (h : ∀ i ∈ rs, wpOp P ops Q i (wpAny P .any ops Q fuel (listed.setIfInBounds i true)) a w) : wpAny P .any ops Q (fuel + 1) listed a w :=
 ⟨fun h0 => absurd (hr ▸ h0) hne, by rw [hr]; exact h⟩
theorem op_step {P : Program} {ops : Array Oper} {Q : Exit → Act → World → Prop} {K : Act → World → Prop} {i : Nat} {o : Oper} {a : Act} {w w' : World} {v : Value} (ho : ops[i]? = some o) (hg : o.guard = none) (hr : (execOp a.eval o).run P w = .ok (.value v) w') (hK : K (a.put o.dst v) w') : wpOp P ops Q i K a w := by
 unfold wpOp
 rw [ho]
 have : ∀ f : Nat → Option Bool, Region.wanted o f = true := fun f => by
  unfold Region.wanted
  rw [hg]
 simp only [this, if_true]
 refine .inl ?_
 unfold Oper.wp
 rw [hr]
 exact hK
theorem op_step0 {P : Program} {ops : Array Oper} {Q : Exit → Act → World → Prop} {K : Act → World → Prop} {i : Nat} {o : Oper} {a : Act} {w w' : World} (ho : ops[i]? = some o) (hg : o.guard = none) (hr : (execOp a.eval o).run P w = .ok .skip w') (hK : K (a.put o.dst undef) w') : wpOp P ops Q i K a w := by
 unfold wpOp
 rw [ho]
 have : ∀ f : Nat → Option Bool, Region.wanted o f = true := fun f => by
  unfold Region.wanted
  rw [hg]
 simp only [this, if_true]
 refine .inl ?_
 unfold Oper.wp
 rw [hr]
 exact hK
theorem put_size {a : Act} {i : Nat} {v : Value} : (a.put (some i) v).tmps.size = a.tmps.size := by simp [Act.put]
theorem put_same {a : Act} {i : Nat} {v : Value} (h : i < a.tmps.size) : (a.put (some i) v).tmps.getD i undef = v := by simp [Act.put, Array.getD_eq_getD_getElem?, h]
theorem put_other {a : Act} {i j : Nat} {v : Value} (h : i ≠ j) : (a.put (some i) v).tmps.getD j undef = a.tmps.getD j undef := by
 simp only [Act.put, Array.getD_eq_getD_getElem?]
 rw [Array.getElem?_setIfInBounds_ne h]
theorem suffix9 {a : Act} {w w1 w2 w3 : World} {m k u v r : Value} {s : Nat} {Q : Exit → Act → World → Prop} (h52 : a.tmps.getD 52 undef = m) (h53 : a.tmps.getD 53 undef = k) (h56 : a.tmps.getD 56 undef = u) (hsz : a.tmps.size = 62)
  (h1 : (Instr.mapEntry 56 m k).run Try.prog w = .ok (.tuple #[v, goInt s]) w1) (h2 : (Builtin.append_ #[64, 64] 64 #[v, u]).run Try.prog w1 = .ok r w2) (h3 : (Instr.entryStore 56 m (goInt s) r).run Try.prog w2 = .ok () w3)
  (hQ : ∀ a' : Act, a'.tmps.size = 62 → (∀ j, j < 54 → a'.tmps.getD j undef = a.tmps.getD j undef) → a'.defers = a.defers → Q .normal a' w3) : wpAny Try.prog .any ops9 Q 5 (l9 [o_,o_,o_,o_,o_]) a w := by
 have e7 : ∀ (a : Act) (w : World), a.tmps.getD 52 undef = m → a.tmps.getD 53 undef = k → (Instr.mapEntry 56 m k).run Try.prog w = .ok (.tuple #[v, goInt s]) w1 → (execOp a.eval (o9 7)).run Try.prog w = .ok (.value (.tuple #[v, goInt s])) w1 := fun a w q1 q2 q3 => by
  simp only [execOp, op9_7, Act.eval, q1, q2]
  simp [q3]
 have e8 : ∀ (a : Act) (w : World), a.tmps.getD 57 undef = .tuple #[v, goInt s] → (execOp a.eval (o9 8)).run Try.prog w = .ok (.value v) w := fun a w q => by
  simp only [execOp, op9_8, Act.eval, q]
  rfl
 have e10 : ∀ (a : Act) (w : World), a.tmps.getD 57 undef = .tuple #[v, goInt s] → (execOp a.eval (o9 10)).run Try.prog w = .ok (.value (goInt s)) w := fun a w q => by
  simp only [execOp, op9_10, Act.eval, q]
  rfl
 have e9 : ∀ (a : Act), a.tmps.getD 54 undef = v → a.tmps.getD 56 undef = u → (execOp a.eval (o9 9)).run Try.prog w1 = .ok (.value r) w2 := fun a q1 q2 => by
  have q1' : a.eval (.tmp 54) = v := q1
  have q2' : a.eval (.tmp 56) = u := q2
  simp [execOp, op9_9, ty9_9, resolve, invoke, builtin, q1', q2', h2]
 have e11 : ∀ (a : Act), a.tmps.getD 52 undef = m → a.tmps.getD 59 undef = goInt s → a.tmps.getD 58 undef = r → (execOp a.eval (o9 11)).run Try.prog w2 = .ok .skip w3 := fun a q1 q2 q3 => by
  simp only [execOp, op9_11, Act.eval, q1, q2, q3]
  simp [h3]
 have last : ∀ b : Act, b.tmps.size = 62 → (∀ j, j < 54 → b.tmps.getD j undef = a.tmps.getD j undef) → b.defers = a.defers → b.tmps.getD 59 undef = goInt s → b.tmps.getD 58 undef = r → wpAny Try.prog .any ops9 Q 1 (l9 [i_,i_,i_,i_,o_]) b w2 := fun b b1 b2 b3 b4 b5 => by
  refine any_step ready9g (by simp) fun i hi => ?_
  simp only [List.mem_singleton] at hi
  subst hi
  refine op_step0 (at9 (by decide)) (guard9 (at9 (by decide))) (e11 b ((b2 52 (by decide)).trans h52) b4 b5) ?_
  rw [dst9_11]
  exact ⟨ready9h, hQ _ b1 b2 b3⟩
 refine any_step ready9a (by simp) fun i hi => ?_
 simp only [List.mem_singleton] at hi
 subst hi
 refine op_step (at9 (by decide)) (guard9 (at9 (by decide))) (e7 a w h52 h53 h1) ?_
 rw [dst9_7]
 generalize ha1 : a.put (some 57) (.tuple #[v, goInt s]) = a1
 have z1 : a1.tmps.size = 62 := by rw [← ha1, put_size]; exact hsz
 have d1 : a1.defers = a.defers := by rw [← ha1]; rfl
 have t1 : a1.tmps.getD 57 undef = .tuple #[v, goInt s] := by rw [← ha1]; exact put_same (by omega)
 have k1 : ∀ j, j ≠ 57 → a1.tmps.getD j undef = a.tmps.getD j undef := fun j hj => by rw [← ha1]; exact put_other (Ne.symm hj)
 have u1 : a1.tmps.getD 56 undef = u := (k1 56 (by decide)).trans h56
 refine any_step ready9b (by simp) fun i hi => ?_
 simp only [List.mem_cons, List.mem_singleton, List.not_mem_nil, or_false] at hi
 rcases hi with rfl | rfl
 ·refine op_step (at9 (by decide)) (guard9 (at9 (by decide))) (e8 a1 w1 t1) ?_
  rw [dst9_8]
  refine any_step ready9c (by simp) fun i hi => ?_
  simp only [List.mem_cons, List.mem_singleton, List.not_mem_nil, or_false] at hi
  rcases hi with rfl | rfl
  ·refine op_step (at9 (by decide)) (guard9 (at9 (by decide))) (e9 _ (put_same (by omega)) ((put_other (by decide)).trans u1)) ?_
   rw [dst9_9]
   refine any_step ready9e (by simp) fun i hi => ?_
   simp only [List.mem_singleton] at hi
   subst hi
   refine op_step (at9 (by decide)) (guard9 (at9 (by decide))) (e10 _ w2 ((put_other (by decide)).trans ((put_other (by decide)).trans t1))) ?_
   rw [dst9_10]
   refine last _ (by rw [put_size, put_size, put_size]; exact z1) (fun j hj => (put_other (by omega)).trans ((put_other (by omega)).trans ((put_other (by omega)).trans (k1 j (by omega))))) d1 (put_same (by rw [put_size, put_size]; omega)) ((put_other (by decide)).trans (put_same (by rw [put_size]; omega)))
  ·refine op_step (at9 (by decide)) (guard9 (at9 (by decide))) (e10 _ w1 ((put_other (by decide)).trans t1)) ?_
   rw [dst9_10]
   refine any_step ready9f (by simp) fun i hi => ?_
   simp only [List.mem_singleton] at hi
   subst hi
   refine op_step (at9 (by decide)) (guard9 (at9 (by decide))) (e9 _ ((put_other (by decide)).trans (put_same (by omega))) ((put_other (by decide)).trans ((put_other (by decide)).trans u1))) ?_
   rw [dst9_9]
   refine last _ (by rw [put_size, put_size, put_size]; exact z1) (fun j hj => (put_other (by omega)).trans ((put_other (by omega)).trans ((put_other (by omega)).trans (k1 j (by omega))))) d1 ((put_other (by decide)).trans (put_same (by rw [put_size]; omega))) (put_same (by rw [put_size, put_size]; omega))
 ·refine op_step (at9 (by decide)) (guard9 (at9 (by decide))) (e10 a1 w1 t1) ?_
  rw [dst9_10]
  refine any_step ready9d (by simp) fun i hi => ?_
  simp only [List.mem_singleton] at hi
  subst hi
  refine op_step (at9 (by decide)) (guard9 (at9 (by decide))) (e8 _ w1 ((put_other (by decide)).trans t1)) ?_
  rw [dst9_8]
  refine any_step ready9f (by simp) fun i hi => ?_
  simp only [List.mem_singleton] at hi
  subst hi
  refine op_step (at9 (by decide)) (guard9 (at9 (by decide))) (e9 _ (put_same (by rw [put_size]; omega)) ((put_other (by decide)).trans ((put_other (by decide)).trans u1))) ?_
  rw [dst9_9]
  refine last _ (by rw [put_size, put_size, put_size]; exact z1) (fun j hj => (put_other (by omega)).trans ((put_other (by omega)).trans ((put_other (by omega)).trans (k1 j (by omega))))) d1 ((put_other (by decide)).trans ((put_other (by decide)).trans (put_same (by omega)))) (put_same (by rw [put_size, put_size]; omega))
end Go.Proofs.Ytdgfbfkjdflabaa
namespace Go.Proofs.Ytdgfbfkjdflabaa
open Go.Ev
theorem ev_x {G : Cf} {f : Nat} (h : tab f = none) (args : List AV) (ins : List Ev.Obj) : Ev tab G f args ins = G.X f args ins := by
 have : ∀ n, evN tab G (n + 1) f args ins = G.X f args ins := fun n => by simp only [evN, evFn, h]
 show lim _ = _
 rw [← lim_shift]
 exact (congrArg lim (funext this)).trans (lim_const _)
theorem g0X : G0.X = netX0 := rfl
theorem ca_x2000224 (l : List AV) : cArgs tab n_x2000224 l = l := rfl
theorem ca_x2000225 (l : List AV) : cArgs tab n_x2000225 l = l := rfl
theorem ca_x2000226 (l : List AV) : cArgs tab n_x2000226 l = l := rfl
theorem ca_x2000228 (l : List AV) : cArgs tab n_x2000228 l = l := rfl
theorem ca_x2000229 (l : List AV) : cArgs tab n_x2000229 l = l := rfl
theorem ca_x2000230 (l : List AV) : cArgs tab n_x2000230 l = l := rfl
theorem ca_x22 (l : List AV) : cArgs tab n_slices_Delete_sl_sl_byte_sl_byte l = l := rfl
attribute [go_sem] ca_x2000224 ca_x2000225 ca_x2000226 ca_x2000228 ca_x2000229 ca_x2000230 ca_x22
theorem x_look (l : Nat → Option (List (List UInt8))) (f t : Int) (hf : inI f = true) (ht : inI t = true) : Ev tab G0 n_x2000224 [.mp 0, .agg [.s (.int .i64 f), .s (.int .i64 t)]] [.big (.lines l)] = some ([.sl true (eBs (if isLine f t = true then (l (lnIx f t)).getD [] else []))], [.big (.lines l)]) := by
 rw [ev_x rfl]
 rw [g0X]
 unfold netX0
 rw [if_pos rfl]
 simp only [hf, ht, and_self, if_true]
theorem x_flag (g : Nat → Bool) (f t : Int) (hf : inI f = true) (ht : inI t = true) : Ev tab G0 n_x2000228 [.mp 0, .agg [.s (.int .i64 f), .s (.int .i64 t)]] [.big (.flags g)] = some ([.s (.bool (isLine f t && g (lnIx f t)))], [.big (.flags g)]) := by
 rw [ev_x rfl]
 rw [g0X]
 unfold netX0
 rw [if_neg (by decide), if_pos rfl]
 simp only [hf, ht, and_self, if_true]
theorem x_upd (l : Nat → Option (List (List UInt8))) (f t : Int) (n e : Nat) (o : Bool) (ms : List (List UInt8)) (hl : isLine f t = true) (hn : n = ms.length) : Ev tab G0 n_x2000225 [.mp 0, .agg [.s (.int .i64 f), .s (.int .i64 t)], .row 1 n] [.big (.lines l), .row e 1 o false (eBs ms)] = some ([.s undef], [.big (.lines (upd1 l (lnIx f t) (some ms))), .dead]) := by
 rw [ev_x rfl]
 rw [g0X]
 unfold netX0
 have h1 : ∀ ms : List (List UInt8), (eBs ms).length = ms.length := fun ms => by simp [eBs]
 have h2 : ∀ m : List UInt8, unB (eB m) = some m := fun m => by
  induction m with
  | nil => rfl
  | cons b m h =>
   have hb := b.toNat_lt
   have h1 : byt (b.toNat : Int) = b := by
    simp only [byt]
    rw [show ((b.toNat : Int) % 256) = b.toNat by omega]
    simp
   simp only [eB, List.map_cons] at h ⊢
   simp only [unB, h]
   rw [if_pos (by omega), h1]
 have h3 : unBs (eBs ms) = some ms := by
  clear hn
  induction ms with
  | nil => rfl
  | cons b m h =>
   simp only [eBs, List.map_cons] at h ⊢
   simp only [unBs, h2, h]
 rw [if_neg (by decide), if_neg (by decide), if_pos rfl]
 simp only [hl, h1, hn, h3, and_self, if_true]
theorem x_set (g : Nat → Bool) (f t : Int) (b : Bool) (hl : isLine f t = true) : Ev tab G0 n_x2000229 [.mp 0, .agg [.s (.int .i64 f), .s (.int .i64 t)], .s (.bool b)] [.big (.flags g)] = some ([.s undef], [.big (.flags (upd1 g (lnIx f t) b))]) := by
 rw [ev_x rfl]
 rw [g0X]
 unfold netX0
 rw [if_neg (by decide), if_neg (by decide), if_neg (by decide), if_pos rfl]
 simp only [hl, if_true]
theorem x_lines : Ev tab G0 n_x2000226 [] [] = some ([.mp 0], [.big (.lines fun _ => none)]) := by
 rw [ev_x rfl]
 rfl
theorem x_flags : Ev tab G0 n_x2000230 [] [] = some ([.mp 0], [.big (.flags fun _ => false)]) := by
 rw [ev_x rfl]
 rfl
theorem x_del (n i : Nat) (e : Nat) (o : Bool) (els : List (List C)) (hi : i < n) (hn : n = els.length) (hm : n ≤ 1048576) : Ev tab G0 n_slices_Delete_sl_sl_byte_sl_byte [.row 0 n, i64 i, i64 (i + 1)] [.row e 1 o false els] = some ([.row 1 (n - 1)], [.dead, .row e 1 o false (els.eraseIdx i)]) := by
 rw [ev_x rfl]
 rw [g0X]
 unfold netX0
 rw [if_neg (by decide), if_neg (by decide), if_neg (by decide), if_neg (by decide), if_neg (by decide), if_neg (by decide), if_pos rfl]
 simp only
 rw [if_pos ⟨by omega, trivial, by omega, hn, hm⟩, Int.toNat_natCast]
theorem net_line_ev (f t : Int) : Ev tab G0 n_net_line [i64 f, i64 t] [] = some ([bo (isLine f t)], []) := by
 refine Ev_run t_net_line rfl rfl ?_
 have e : isLine f t = (decide (f ≥ 1) && decide (f ≤ 7) && decide (t ≥ 1) && decide (t ≤ 7) && !(f == t)) := by
  simp only [isLine]
  rw [Bool.eq_iff_iff]
  simp
  omega
 rw [e]
 by_cases h1 : f ≥ 1 <;> by_cases h2 : f ≤ 7 <;> by_cases h3 : t ≥ 1 <;> by_cases h4 : t ≤ 7 <;> by_cases h5 : f = t <;> simp (disch := omega) only [go_sem, seval, i_net_line, h1, h2, h3, h4, h5]
 have : (f == t) = false := by simpa using h5
 rw [this]
 rfl
abbrev oN : Ev.Obj := .var [.mp 1, .mp 2]
abbrev oL (l : Nat → Option (List (List UInt8))) : Ev.Obj := .big (.lines l)
abbrev oF (g : Nat → Bool) : Ev.Obj := .big (.flags g)
theorem net_Net_Cut_ev (l : Nat → Option (List (List UInt8))) (g : Nat → Bool) (f t : Int) (hf : inI f = true) (ht : inI t = true) : Ev tab G0 n_net_Net_Cut [.ptr 0 0, i64 f, i64 t] [oN, oL l, oF g] = some ([bo (!isLine f t || g (lnIx f t))], [oN, oL l, oF g]) := by
 refine Ev_run t_net_Net_Cut rfl rfl ?_
 have h1 := net_line_ev f t
 have h2 := x_flag g f t hf ht
 cases hl : isLine f t
 ·rw [hl] at h1 h2
  simp (disch := omega) only [go_sem, seval, i_net_Net_Cut, h1, h2]
 ·rw [hl] at h1 h2
  simp (disch := omega) only [go_sem, seval, i_net_Net_Cut, h1, h2]
theorem eBs_len (ms : List (List UInt8)) : (eBs ms).length = ms.length := by simp [eBs]
theorem net_Net_Len_ev (l : Nat → Option (List (List UInt8))) (g : Nat → Bool) (f t : Int) (hf : inI f = true) (ht : inI t = true) : Ev tab G0 n_net_Net_Len [.ptr 0 0, i64 f, i64 t] [oN, oL l, oF g] = some ([i64 (if isLine f t = true then (l (lnIx f t)).getD [] else []).length], [oN, oL l, oF g]) := by
 refine Ev_run t_net_Net_Len rfl rfl ?_
 have h2 := x_look l f t hf ht
 generalize (if isLine f t = true then (l (lnIx f t)).getD [] else []) = ms at *
 simp (disch := omega) only [go_sem, seval, i_net_Net_Len, h2, eBs_len]
theorem net_New_ev : Ev tab G0 n_net_New [] [] = some ([.ptr 0 0], [oN, oL fun _ => none, oF fun _ => false]) := by
 refine Ev_run t_net_New rfl rfl ?_
 simp (disch := omega) only [go_sem, seval, i_net_New, x_lines, x_flags]
end Go.Proofs.Ytdgfbfkjdflabaa
namespace Go.Proofs.Ytdgfbfkjdflabaa
open Go.Ev
def sq3 : List Opr := [
 ⟨(some 14), .bin .plain .lss (.t 13) (.t 12), none, []⟩]
def sq4 : List Opr := [
 ⟨(some 15), .ia 17 (.t 11) (.t 13), none, []⟩,
 ⟨(some 16), .load true 17 (.t 15), none, []⟩,
 ⟨(some 7), .new 0 [(.int .i64 0), (.int .i64 0), (.int .i64 0), (.int .i64 0), (.int .i64 0), (.int .i64 0), (.int .i64 0), (.bool false), (.slice none 0 0), (.slice none 0 0), (.int .i64 0), (.slice none 0 0), (.int .i64 0), (.slice none 0 0), (.slice none 0 0), (.slice none 0 0), (.slice none 0 0)], none, []⟩,
 ⟨none, .store 17 (.t 7) (.t 16), none, []⟩]
def sq5 : List Opr := [
 ⟨(some 17), .fa 1 (.t 7), none, []⟩,
 ⟨(some 18), .load false 1 (.t 17), none, []⟩,
 ⟨(some 19), .fa 2 (.t 7), none, []⟩,
 ⟨(some 20), .load false 1 (.t 19), none, []⟩,
 ⟨(some 21), .build [(.int .i64 0), (.int .i64 0)] [(0, 1, (.t 18)), (1, 1, (.t 20))], none, []⟩,
 ⟨(some 8), .new 1 [(.int .i64 0), (.int .i64 0)], none, []⟩,
 ⟨none, .store 2 (.t 8) (.t 21), none, []⟩]
def sq6 : List Opr := [
 ⟨(some 23), .load true 17 (.t 7), none, []⟩,
 ⟨(some 24), .qcall n_entry_Write [(.t 23)] [], none, [23]⟩,
 ⟨(some 22), .mv (.t 24), none, []⟩,
 ⟨(some 25), .ext 0 (.t 22), none, []⟩,
 ⟨(some 26), .ext 1 (.t 22), none, []⟩,
 ⟨(some 9), .cn (.t 25), none, []⟩,
 ⟨(some 10), .mv (.t 26), none, []⟩]
def sq10 : List Opr := [
 ⟨(some 60), .bin .plain .add (.t 13) (.k (.int .i64 1)), none, []⟩,
 ⟨(some 13), .mv (.t 60), none, []⟩]
def sq0 : List Opr := [
 ⟨(some 4), .mv (.k (.int .i64 0)), none, []⟩]
def sq1 : List Opr := [
 ⟨(some 5), .mv (.k (.int .i64 0)), none, []⟩]
def sq2 : List Opr := [
 ⟨(some 11), .cn (.t 1), none, []⟩,
 ⟨(some 12), .len false (.t 11), none, []⟩,
 ⟨(some 13), .mv (.k (.int .i64 0)), none, []⟩]
def sq11 : List Opr := [
 ⟨(some 61), .mv (.t 5), none, []⟩,
 ⟨(some 4), .mv (.t 61), none, []⟩]
def sq9 : List Opr := [
 ⟨(some 49), .mv (.t 0), none, []⟩,
 ⟨(some 50), .nilc (.t 49), none, []⟩,
 ⟨(some 51), .fa 0 (.t 50), none, []⟩,
 ⟨(some 52), .load false 1 (.t 51), none, []⟩,
 ⟨(some 53), .load true 2 (.t 8), none, []⟩,
 ⟨(some 55), .cn (.t 9), none, []⟩,
 ⟨(some 56), .litd 1 1 [(.slice none 0 0)] [(0, (.t 55))], none, []⟩]
def sqX : IR := .seq (.reg [] [
 ⟨(some 27), .mv (.t 10), none, []⟩,
 ⟨(some 28), .bin (.iface 38 true) .neq (.t 27) (.k .nilIface), none, []⟩,
 ⟨(some 29), .mv (.t 28), none, []⟩,
 ⟨(some 30), .mv (.t 0), (some (29, false)), []⟩,
 ⟨(some 31), .fa 1 (.t 7), (some (29, false)), []⟩,
 ⟨(some 32), .load false 1 (.t 31), (some (29, false)), []⟩,
 ⟨(some 33), .fa 2 (.t 7), (some (29, false)), []⟩,
 ⟨(some 34), .load false 1 (.t 33), (some (29, false)), []⟩,
 ⟨(some 35), .call n_net_Net_Cut [(.t 30), (.t 32), (.t 34)] [], (some (29, false)), []⟩,
 ⟨(some 36), .pick (.t 29) (.k (.bool true)) (.t 35), none, []⟩,
 ⟨(some 37), .mv (.t 36), none, []⟩,
 ⟨(some 38), .mv (.t 0), (some (37, false)), []⟩,
 ⟨(some 39), .nilc (.t 38), (some (37, false)), []⟩,
 ⟨(some 40), .fa 0 (.t 39), (some (37, false)), []⟩,
 ⟨(some 41), .load false 1 (.t 40), (some (37, false)), []⟩,
 ⟨(some 42), .load true 2 (.t 8), (some (37, false)), []⟩,
 ⟨(some 43), .call n_x2000224 [(.t 41), (.t 42)] [], (some (37, false)), []⟩,
 ⟨(some 44), .len false (.t 43), (some (37, false)), []⟩,
 ⟨(some 45), .bin .plain .geq (.t 44) (.k (.int .i64 64)), (some (37, false)), []⟩,
 ⟨(some 46), .pick (.t 37) (.k (.bool true)) (.t 45), none, []⟩]) (.cond (.t 46) (.seq (.reg [] [
 ⟨(some 47), .mv (.t 5), none, []⟩,
 ⟨(some 48), .bin .plain .add (.t 47) (.k (.int .i64 1)), none, []⟩,
 ⟨(some 5), .mv (.t 48), none, []⟩]) (.exit 1 iSend_j1)) .skip)
abbrev hS (a b : Option Ev.Obj) (l : Nat → Option (List (List UInt8))) (g : Nat → Bool) : Heap := [a, b, none, some (.var [.mp 4, .mp 5]), some (.big (.lines l)), some (.big (.flags g))]
abbrev eS (f t : Int) (c0 c3 c4 c5 c6 c7 c8 c9 c10 c11 c12 c13 c14 c15 c16 : C) : List C := [c0, .sc (.int .i64 f), .sc (.int .i64 t), c3, c4, c5, c6, c7, c8, c9, c10, c11, c12, c13, c14, c15, c16]
abbrev vS (f t : Int) (c0 c3 c4 c5 c6 c7 c8 c9 c10 c11 c12 c13 c14 c15 c16 : C) : List AV := [ofC true c0, i64 f, i64 t, ofC true c3, ofC true c4, ofC true c5, ofC true c6, ofC true c7, ofC true c8, ofC true c9, ofC true c10, ofC true c11, ofC true c12, ofC true c13, ofC true c14, ofC true c15, ofC true c16]
abbrev uK (n : Int) (ms : List (List C)) (i : Nat) (l : Nat → Option (List (List UInt8))) (g : Nat → Bool)  : St := ⟨[.ptr 3 0, u_,u_,u_,u_,i64 n, u_,u_,u_,u_,u_,.sl true ms, i64 ms.length, i64 i, u_,u_,u_,u_,u_,u_,u_,u_,u_,u_,u_,u_,u_,u_,u_,u_,u_,u_,u_,u_,u_,u_,u_,u_,u_,u_,u_,u_,u_,u_,u_,u_,u_,u_,u_,u_,u_,u_,u_,u_,u_,u_,u_,u_,u_,u_,u_,u_], (hS none none l g)⟩
abbrev u3 (n : Int) (ms : List (List C)) (i : Nat) (l : Nat → Option (List (List UInt8))) (g : Nat → Bool)  : St := ⟨[.ptr 3 0, u_,u_,u_,u_,i64 n, u_,u_,u_,u_,u_,.sl true ms, i64 ms.length, i64 i, .s (.bool (decide ((i : Int) < (ms.length : Int)))), u_,u_,u_,u_,u_,u_,u_,u_,u_,u_,u_,u_,u_,u_,u_,u_,u_,u_,u_,u_,u_,u_,u_,u_,u_,u_,u_,u_,u_,u_,u_,u_,u_,u_,u_,u_,u_,u_,u_,u_,u_,u_,u_,u_,u_,u_,u_], (hS none none l g)⟩
abbrev u4 (n : Int) (ms : List (List C)) (i : Nat) (l : Nat → Option (List (List UInt8))) (g : Nat → Bool) (f t : Int) (c0 c3 c4 c5 c6 c7 c8 c9 c10 c11 c12 c13 c14 c15 c16 : C) : St := ⟨[.ptr 3 0, u_,u_,u_,u_,i64 n, u_,.ptr 0 0, u_,u_,u_,.sl true ms, i64 ms.length, i64 i, u_,.daddr true (eS f t c0 c3 c4 c5 c6 c7 c8 c9 c10 c11 c12 c13 c14 c15 c16), .agg (vS f t c0 c3 c4 c5 c6 c7 c8 c9 c10 c11 c12 c13 c14 c15 c16), u_,u_,u_,u_,u_,u_,u_,u_,u_,u_,u_,u_,u_,u_,u_,u_,u_,u_,u_,u_,u_,u_,u_,u_,u_,u_,u_,u_,u_,u_,u_,u_,u_,u_,u_,u_,u_,u_,u_,u_,u_,u_,u_,u_,u_], (hS (some (.var (vS f t c0 c3 c4 c5 c6 c7 c8 c9 c10 c11 c12 c13 c14 c15 c16))) none l g)⟩
abbrev u4k (n : Int) (ms : List (List C)) (i : Nat) (l : Nat → Option (List (List UInt8))) (g : Nat → Bool) (f t : Int) (c0 c3 c4 c5 c6 c7 c8 c9 c10 c11 c12 c13 c14 c15 c16 : C) : St := ⟨[.ptr 3 0, u_,u_,u_,u_,i64 n, u_,.ptr 0 0, u_,u_,u_,.sl true ms, i64 ms.length, i64 i, u_,u_,u_,u_,u_,u_,u_,u_,u_,u_,u_,u_,u_,u_,u_,u_,u_,u_,u_,u_,u_,u_,u_,u_,u_,u_,u_,u_,u_,u_,u_,u_,u_,u_,u_,u_,u_,u_,u_,u_,u_,u_,u_,u_,u_,u_,u_,u_], (hS (some (.var (vS f t c0 c3 c4 c5 c6 c7 c8 c9 c10 c11 c12 c13 c14 c15 c16))) none l g)⟩
abbrev u5 (n : Int) (ms : List (List C)) (i : Nat) (l : Nat → Option (List (List UInt8))) (g : Nat → Bool) (f t : Int) (c0 c3 c4 c5 c6 c7 c8 c9 c10 c11 c12 c13 c14 c15 c16 : C) : St := ⟨[.ptr 3 0, u_,u_,u_,u_,i64 n, u_,.ptr 0 0, .ptr 1 0, u_,u_,.sl true ms, i64 ms.length, i64 i, u_,u_,u_,.ptr 0 1, i64 f, .ptr 0 2, i64 t, .agg [i64 f, i64 t], u_,u_,u_,u_,u_,u_,u_,u_,u_,u_,u_,u_,u_,u_,u_,u_,u_,u_,u_,u_,u_,u_,u_,u_,u_,u_,u_,u_,u_,u_,u_,u_,u_,u_,u_,u_,u_,u_,u_,u_], (hS (some (.var (vS f t c0 c3 c4 c5 c6 c7 c8 c9 c10 c11 c12 c13 c14 c15 c16))) (some (.var [i64 f, i64 t])) l g)⟩
abbrev u5k (n : Int) (ms : List (List C)) (i : Nat) (l : Nat → Option (List (List UInt8))) (g : Nat → Bool) (f t : Int) (c0 c3 c4 c5 c6 c7 c8 c9 c10 c11 c12 c13 c14 c15 c16 : C) : St := ⟨[.ptr 3 0, u_,u_,u_,u_,i64 n, u_,.ptr 0 0, .ptr 1 0, u_,u_,.sl true ms, i64 ms.length, i64 i, u_,u_,u_,u_,u_,u_,u_,u_,u_,u_,u_,u_,u_,u_,u_,u_,u_,u_,u_,u_,u_,u_,u_,u_,u_,u_,u_,u_,u_,u_,u_,u_,u_,u_,u_,u_,u_,u_,u_,u_,u_,u_,u_,u_,u_,u_,u_,u_], (hS (some (.var (vS f t c0 c3 c4 c5 c6 c7 c8 c9 c10 c11 c12 c13 c14 c15 c16))) (some (.var [i64 f, i64 t])) l g)⟩
abbrev u6 (n : Int) (ms : List (List C)) (i : Nat) (l : Nat → Option (List (List UInt8))) (g : Nat → Bool) (f t : Int) (c0 c3 c4 c5 c6 c7 c8 c9 c10 c11 c12 c13 c14 c15 c16 : C) (B : List (List C)) (err : Value) : St := ⟨[.ptr 3 0, u_,u_,u_,u_,i64 n, u_,.ptr 0 0, .ptr 1 0, .sl true B, .s err, .sl true ms, i64 ms.length, i64 i, u_,u_,u_,u_,u_,u_,u_,u_,.tup [.sl true B, .s err], .agg (vS f t c0 c3 c4 c5 c6 c7 c8 c9 c10 c11 c12 c13 c14 c15 c16), .tup [.sl true B, .s err], .sl true B, .s err, u_,u_,u_,u_,u_,u_,u_,u_,u_,u_,u_,u_,u_,u_,u_,u_,u_,u_,u_,u_,u_,u_,u_,u_,u_,u_,u_,u_,u_,u_,u_,u_,u_,u_,u_], (hS (some (.var (vS f t c0 c3 c4 c5 c6 c7 c8 c9 c10 c11 c12 c13 c14 c15 c16))) (some (.var [i64 f, i64 t])) l g)⟩
abbrev u6k (n : Int) (ms : List (List C)) (i : Nat) (l : Nat → Option (List (List UInt8))) (g : Nat → Bool) (f t : Int) (c0 c3 c4 c5 c6 c7 c8 c9 c10 c11 c12 c13 c14 c15 c16 : C) (B : List (List C)) (err : Value) : St := ⟨[.ptr 3 0, u_,u_,u_,u_,i64 n, u_,.ptr 0 0, .ptr 1 0, .sl true B, .s err, .sl true ms, i64 ms.length, i64 i, u_,u_,u_,u_,u_,u_,u_,u_,u_,u_,u_,u_,u_,u_,u_,u_,u_,u_,u_,u_,u_,u_,u_,u_,u_,u_,u_,u_,u_,u_,u_,u_,u_,u_,u_,u_,u_,u_,u_,u_,u_,u_,u_,u_,u_,u_,u_,u_], (hS (some (.var (vS f t c0 c3 c4 c5 c6 c7 c8 c9 c10 c11 c12 c13 c14 c15 c16))) (some (.var [i64 f, i64 t])) l g)⟩
abbrev u8k (n : Int) (ms : List (List C)) (i : Nat) (l : Nat → Option (List (List UInt8))) (g : Nat → Bool) (f t : Int) (c0 c3 c4 c5 c6 c7 c8 c9 c10 c11 c12 c13 c14 c15 c16 : C) (B : List (List C)) : St := ⟨[.ptr 3 0, u_,u_,u_,u_,i64 n, u_,u_,.ptr 1 0, .sl true B, u_,.sl true ms, i64 ms.length, i64 i, u_,u_,u_,u_,u_,u_,u_,u_,u_,u_,u_,u_,u_,u_,u_,u_,u_,u_,u_,u_,u_,u_,u_,u_,u_,u_,u_,u_,u_,u_,u_,u_,u_,u_,u_,u_,u_,u_,u_,u_,u_,u_,u_,u_,u_,u_,u_,u_], (hS (some (.var (vS f t c0 c3 c4 c5 c6 c7 c8 c9 c10 c11 c12 c13 c14 c15 c16))) (some (.var [i64 f, i64 t])) l g)⟩
abbrev u9 (n : Int) (ms : List (List C)) (i : Nat) (l : Nat → Option (List (List UInt8))) (g : Nat → Bool) (f t : Int) (c0 c3 c4 c5 c6 c7 c8 c9 c10 c11 c12 c13 c14 c15 c16 : C) (B : List (List C)) : St := ⟨[.ptr 3 0, u_,u_,u_,u_,i64 n, u_,u_,.ptr 1 0, .sl true B, u_,.sl true ms, i64 ms.length, i64 i, u_,u_,u_,u_,u_,u_,u_,u_,u_,u_,u_,u_,u_,u_,u_,u_,u_,u_,u_,u_,u_,u_,u_,u_,u_,u_,u_,u_,u_,u_,u_,u_,u_,u_,u_,.ptr 3 0, .ptr 3 0, .ptr 3 0, .mp 4, .agg [i64 f, i64 t], u_,.sl true B, .sl true [[.sl B]], u_,u_,u_,u_,u_], (hS (some (.var (vS f t c0 c3 c4 c5 c6 c7 c8 c9 c10 c11 c12 c13 c14 c15 c16))) (some (.var [i64 f, i64 t])) l g)⟩
theorem ofC_canon (c : C) : AV.canon1 (ofC true c) = ofC true c := by cases c <;> rfl
theorem ofC_age (c : C) : (ofC true c).age true = ofC true c := by cases c <;> rfl
theorem ofC_refs (c : C) : (ofC true c).refs = [] := by cases c <;> rfl
theorem ofC_frz (h : Heap) (c : C) : frz1 h (ofC true c) = some (ofC true c, h) := by cases c <;> rfl
attribute [local go_sem] ofC_canon ofC_age ofC_refs ofC_frz
abbrev u10 (n : Int) (ms : List (List C)) (i : Nat) (l : Nat → Option (List (List UInt8))) (g : Nat → Bool)  : St := ⟨[.ptr 3 0, u_,u_,u_,u_,i64 n, u_,u_,u_,u_,u_,.sl true ms, i64 ms.length, i64 ((i : Int) + 1), u_,u_,u_,u_,u_,u_,u_,u_,u_,u_,u_,u_,u_,u_,u_,u_,u_,u_,u_,u_,u_,u_,u_,u_,u_,u_,u_,u_,u_,u_,u_,u_,u_,u_,u_,u_,u_,u_,u_,u_,u_,u_,u_,u_,u_,u_,i64 ((i : Int) + 1), u_], (hS none none l g)⟩
theorem s3_ev (n : Int) (ms : List (List C)) (i : Nat) (l : Nat → Option (List (List UInt8))) (g : Nat → Bool)  : app tab G0 3 [] (ex tab G0 3 (.reg [] sq3) (uK n ms i l g)) = some (.normal, u3 n ms i l g) := by
 simp (disch := omega) only [go_sem, seval, sq3]
theorem s4_ev (n : Int) (ms : List (List C)) (i : Nat) (l : Nat → Option (List (List UInt8))) (g : Nat → Bool) (f t : Int) (c0 c3 c4 c5 c6 c7 c8 c9 c10 c11 c12 c13 c14 c15 c16 : C) (hz : szOk 17 ms = true) (hi : i < ms.length) (hg : ms[i]? = some (eS f t c0 c3 c4 c5 c6 c7 c8 c9 c10 c11 c12 c13 c14 c15 c16)) (o0 : (ofC true c0).cellOk = true) (o3 : (ofC true c3).cellOk = true) (o4 : (ofC true c4).cellOk = true) (o5 : (ofC true c5).cellOk = true) (o6 : (ofC true c6).cellOk = true) (o7 : (ofC true c7).cellOk = true) (o8 : (ofC true c8).cellOk = true) (o9 : (ofC true c9).cellOk = true) (o10 : (ofC true c10).cellOk = true) (o11 : (ofC true c11).cellOk = true) (o12 : (ofC true c12).cellOk = true) (o13 : (ofC true c13).cellOk = true) (o14 : (ofC true c14).cellOk = true) (o15 : (ofC true c15).cellOk = true) (o16 : (ofC true c16).cellOk = true) : app tab G0 3 [] (ex tab G0 3 (.reg [] sq4) (uK n ms i l g)) = some (.normal, u4 n ms i l g f t c0 c3 c4 c5 c6 c7 c8 c9 c10 c11 c12 c13 c14 c15 c16) := by
 simp (disch := omega) only [go_sem, seval, sq4, hz, hi, hg, o0, o3, o4, o5, o6, o7, o8, o9, o10, o11, o12, o13, o14, o15, o16]
theorem s5_ev (n : Int) (ms : List (List C)) (i : Nat) (l : Nat → Option (List (List UInt8))) (g : Nat → Bool) (f t : Int) (c0 c3 c4 c5 c6 c7 c8 c9 c10 c11 c12 c13 c14 c15 c16 : C) : app tab G0 3 [] (ex tab G0 3 (.reg [] sq5) (u4k n ms i l g f t c0 c3 c4 c5 c6 c7 c8 c9 c10 c11 c12 c13 c14 c15 c16)) = some (.normal, u5 n ms i l g f t c0 c3 c4 c5 c6 c7 c8 c9 c10 c11 c12 c13 c14 c15 c16) := by
 simp (disch := omega) only [go_sem, seval, sq5]
theorem s6_ev (n : Int) (ms : List (List C)) (i : Nat) (l : Nat → Option (List (List UInt8))) (g : Nat → Bool) (f t : Int) (c0 c3 c4 c5 c6 c7 c8 c9 c10 c11 c12 c13 c14 c15 c16 : C) (B : List (List C)) (err : Value) (hw : Ev tab G0 n_entry_Write [.agg (vS f t c0 c3 c4 c5 c6 c7 c8 c9 c10 c11 c12 c13 c14 c15 c16)] [] = some ([.sl true B, .s err], [])) : app tab G0 3 [] (ex tab G0 3 (.reg [] sq6) (u5k n ms i l g f t c0 c3 c4 c5 c6 c7 c8 c9 c10 c11 c12 c13 c14 c15 c16)) = some (.normal, u6 n ms i l g f t c0 c3 c4 c5 c6 c7 c8 c9 c10 c11 c12 c13 c14 c15 c16 B err) := by
 simp (disch := omega) only [go_sem, seval, sq6, hw]
theorem s9_ev (n : Int) (ms : List (List C)) (i : Nat) (l : Nat → Option (List (List UInt8))) (g : Nat → Bool) (f t : Int) (c0 c3 c4 c5 c6 c7 c8 c9 c10 c11 c12 c13 c14 c15 c16 : C) (B : List (List C)) : app tab G0 3 [] (ex tab G0 3 (.reg [] sq9) (u8k n ms i l g f t c0 c3 c4 c5 c6 c7 c8 c9 c10 c11 c12 c13 c14 c15 c16 B)) = some (.normal, u9 n ms i l g f t c0 c3 c4 c5 c6 c7 c8 c9 c10 c11 c12 c13 c14 c15 c16 B) := by
 simp (disch := omega) only [go_sem, seval, sq9]
abbrev u7 (n : Int) (ms : List (List C)) (i : Nat) (l : Nat → Option (List (List UInt8))) (g : Nat → Bool) (f t : Int) (c0 c3 c4 c5 c6 c7 c8 c9 c10 c11 c12 c13 c14 c15 c16 : C) (B : List (List C)) (L : List (List UInt8)) : St := ⟨[.ptr 3 0, u_,u_,u_,u_,i64 n, u_,.ptr 0 0, .ptr 1 0, .sl true B, .s .nilIface, .sl true ms, i64 ms.length, i64 i, u_,u_,u_,u_,u_,u_,u_,u_,u_,u_,u_,u_,u_,.s .nilIface, bo false, bo false, .ptr 3 0, .ptr 0 1, i64 f, .ptr 0 2, i64 t, bo false, bo false, bo false, .ptr 3 0, .ptr 3 0, .ptr 3 0, .mp 4, .agg [i64 f, i64 t], .sl true (eBs L), i64 L.length, bo false, bo false, u_,u_,u_,u_,u_,u_,u_,u_,u_,u_,u_,u_,u_,u_,u_], (hS (some (.var (vS f t c0 c3 c4 c5 c6 c7 c8 c9 c10 c11 c12 c13 c14 c15 c16))) (some (.var [i64 f, i64 t])) l g)⟩
theorem sX_err (n : Int) (ms : List (List C)) (i : Nat) (l : Nat → Option (List (List UInt8))) (g : Nat → Bool) (f t : Int) (c0 c3 c4 c5 c6 c7 c8 c9 c10 c11 c12 c13 c14 c15 c16 : C) (B : List (List C)) (ty : TypeId) (ev : Value) (hn : 0 ≤ n ∧ n ≤ 1048576) : app tab G0 3 [] (ex tab G0 3 sqX (u6k n ms i l g f t c0 c3 c4 c5 c6 c7 c8 c9 c10 c11 c12 c13 c14 c15 c16 B (.iface ty ev))) = some (.exit 1, uK (n + 1) ms i l g) := by
 simp (disch := omega) only [go_sem, seval, sqX]
theorem sX_cut (n : Int) (ms : List (List C)) (i : Nat) (l : Nat → Option (List (List UInt8))) (g : Nat → Bool) (f t : Int) (c0 c3 c4 c5 c6 c7 c8 c9 c10 c11 c12 c13 c14 c15 c16 : C) (B : List (List C)) (hn : 0 ≤ n ∧ n ≤ 1048576) (hf : inI f = true) (ht : inI t = true) (hc : (!isLine f t || g (lnIx f t)) = true) : app tab G0 3 [] (ex tab G0 3 sqX (u6k n ms i l g f t c0 c3 c4 c5 c6 c7 c8 c9 c10 c11 c12 c13 c14 c15 c16 B .nilIface)) = some (.exit 1, uK (n + 1) ms i l g) := by
 have h1 := net_Net_Cut_ev l g f t hf ht
 rw [hc] at h1
 simp (disch := omega) only [go_sem, seval, sqX, h1]
theorem sX_full (n : Int) (ms : List (List C)) (i : Nat) (l : Nat → Option (List (List UInt8))) (g : Nat → Bool) (f t : Int) (c0 c3 c4 c5 c6 c7 c8 c9 c10 c11 c12 c13 c14 c15 c16 : C) (B : List (List C)) (hn : 0 ≤ n ∧ n ≤ 1048576) (L : List (List UInt8)) (hf : inI f = true) (ht : inI t = true) (hc : isLine f t = true ∧ g (lnIx f t) = false) (hL : (l (lnIx f t)).getD [] = L) (hl : 64 ≤ L.length) : app tab G0 3 [] (ex tab G0 3 sqX (u6k n ms i l g f t c0 c3 c4 c5 c6 c7 c8 c9 c10 c11 c12 c13 c14 c15 c16 B .nilIface)) = some (.exit 1, uK (n + 1) ms i l g) := by
 have h1 := net_Net_Cut_ev l g f t hf ht
 have h2 := x_look l f t hf ht
 rw [hc.1, hc.2] at h1
 rw [if_pos hc.1, hL] at h2
 simp (disch := omega) only [go_sem, seval, sqX, h1, h2, eBs_len, hl]
theorem sX_on (n : Int) (ms : List (List C)) (i : Nat) (l : Nat → Option (List (List UInt8))) (g : Nat → Bool) (f t : Int) (c0 c3 c4 c5 c6 c7 c8 c9 c10 c11 c12 c13 c14 c15 c16 : C) (B : List (List C)) (L : List (List UInt8)) (hf : inI f = true) (ht : inI t = true) (hc : isLine f t = true ∧ g (lnIx f t) = false) (hL : (l (lnIx f t)).getD [] = L) (hl : L.length < 64) : app tab G0 3 [] (ex tab G0 3 sqX (u6k n ms i l g f t c0 c3 c4 c5 c6 c7 c8 c9 c10 c11 c12 c13 c14 c15 c16 B .nilIface)) = some (.normal, u7 n ms i l g f t c0 c3 c4 c5 c6 c7 c8 c9 c10 c11 c12 c13 c14 c15 c16 B L) := by
 have h1 := net_Net_Cut_ev l g f t hf ht
 have h2 := x_look l f t hf ht
 rw [hc.1, hc.2] at h1
 rw [if_pos hc.1, hL] at h2
 simp (disch := omega) only [go_sem, seval, sqX, h1, h2, eBs_len, hl]
theorem s10_ev (n : Int) (ms : List (List C)) (i : Nat) (l : Nat → Option (List (List UInt8))) (g : Nat → Bool) (hi : i < 1048577) : app tab G0 3 [] (ex tab G0 3 (.reg [] sq10) (uK n ms i l g)) = some (.normal, u10 n ms i l g) := by
 simp (disch := omega) only [go_sem, seval, sq10]
end Go.Proofs.Ytdgfbfkjdflabaa
