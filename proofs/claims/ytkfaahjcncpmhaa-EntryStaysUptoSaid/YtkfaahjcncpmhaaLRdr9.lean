/-
  Messages out of bytes: the program's reader.
-/
import Derived.Test.YtkfaahjcncpmhaaLRdr6
import Derived.Test.YtkfaahjcncpmhaaLMsg
import Derived.Test.YtkfaahjcncpmhaaLCodeSim
set_option linter.unusedSimpArgs false
set_option linter.unusedVariables false
set_option maxRecDepth 200000
set_option maxHeartbeats 4000000
namespace Go.Proofs.Ytkfaahjcncpmhaa
open Go.Ev

def Rq.byt (q : Rq) : Int × Rq := (q.r.kd, ⟨q.r.byte.2, q.bad || decide (1 < q.r.kd)⟩)
def Rq.bys (q : Rq) (m : Int) : List UInt8 × Rq := ((q.r.bytes m).1, ⟨(q.r.bytes m).2, q.bad⟩)
def Rq.tre (q : Rq) : T × Rq := (rdV (q.r.bytes 1048576).1, ⟨(q.r.bytes 1048576).2, q.bad || decide (¬ rdC (q.r.bytes 1048576).1 = 0)⟩)
def MG.no : MG := ⟨0, 0, 0, 0, 0, 0, 0, false, [], [], 0, [], T.no⟩
theorem avMsg_no : avMsg MG.no = .agg [i64 0, i64 0, i64 0, i64 0, i64 0, i64 0, i64 0, bo false, .sl true [], .sl true [], i64 0, .sl true [], i64 0, .sl true [], .sl true [], .sl true [], .sl true []] := rfl
theorem avMsg_mk (a b c d e f g : Int) (h : Bool) (i : List Ent) (j : List Int) (k : Int) (l : List UInt8) (t : T) : avMsg ⟨a, b, c, d, e, f, g, h, i, j, k, l, t⟩ = .agg [i64 a, i64 b, i64 c, i64 d, i64 e, i64 f, i64 g, bo h, .sl true (eE i), .sl true (eI .i64 j), i64 k, .sl true (eB l), i64 t.kind, .sl true (eB t.key), .sl true (eB t.value), .sl true (eB t.digest), .sl true (eT t.kids)] := rfl
theorem rd_bad (t : T) : True := trivial
end Go.Proofs.Ytkfaahjcncpmhaa
