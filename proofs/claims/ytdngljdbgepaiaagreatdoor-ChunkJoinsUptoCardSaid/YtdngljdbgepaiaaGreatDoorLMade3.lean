/-
  The tables, computed.
-/
import Derived.Test.YtdngljdbgepaiaaGreatDoorLMade2
set_option linter.unusedSimpArgs false
set_option linter.unusedVariables false
set_option maxRecDepth 200000
set_option maxHeartbeats 4000000
namespace Go.Proofs.YtdngljdbgepaiaaGreatDoor
open Go.Ev

theorem rootsK_eq (l : List Int) : ∀ (n i : Nat) (o : List Int), i + n = l.length → rootsK l n i o = o ++ (l.drop i).map fun p => rootP p true
  | 0, i, o, h => by rw [rootsK, List.drop_of_length_le (by omega)]; simp
  | n + 1, i, o, h => by
    rw [rootsK, rootsK_eq l n (i + 1) _ (by omega), drop_step (l := l) (d := 0) (i := i) (by omega)]
    simp
theorem rk_0 : rootP 2 true = 1116352408 := by kernel_rfl
theorem rk_1 : rootP 3 true = 1899447441 := by kernel_rfl
theorem rk_2 : rootP 5 true = 3049323471 := by kernel_rfl
theorem rk_3 : rootP 7 true = 3921009573 := by kernel_rfl
theorem rk_4 : rootP 11 true = 961987163 := by kernel_rfl
theorem rk_5 : rootP 13 true = 1508970993 := by kernel_rfl
theorem rk_6 : rootP 17 true = 2453635748 := by kernel_rfl
theorem rk_7 : rootP 19 true = 2870763221 := by kernel_rfl
theorem rk_8 : rootP 23 true = 3624381080 := by kernel_rfl
theorem rk_9 : rootP 29 true = 310598401 := by kernel_rfl
theorem rk_10 : rootP 31 true = 607225278 := by kernel_rfl
theorem rk_11 : rootP 37 true = 1426881987 := by kernel_rfl
theorem rk_12 : rootP 41 true = 1925078388 := by kernel_rfl
theorem rk_13 : rootP 43 true = 2162078206 := by kernel_rfl
theorem rk_14 : rootP 47 true = 2614888103 := by kernel_rfl
theorem rk_15 : rootP 53 true = 3248222580 := by kernel_rfl
theorem rk_16 : rootP 59 true = 3835390401 := by kernel_rfl
theorem rk_17 : rootP 61 true = 4022224774 := by kernel_rfl
theorem rk_18 : rootP 67 true = 264347078 := by kernel_rfl
theorem rk_19 : rootP 71 true = 604807628 := by kernel_rfl
theorem rk_20 : rootP 73 true = 770255983 := by kernel_rfl
theorem rk_21 : rootP 79 true = 1249150122 := by kernel_rfl
theorem rk_22 : rootP 83 true = 1555081692 := by kernel_rfl
theorem rk_23 : rootP 89 true = 1996064986 := by kernel_rfl
theorem rk_24 : rootP 97 true = 2554220882 := by kernel_rfl
theorem rk_25 : rootP 101 true = 2821834349 := by kernel_rfl
theorem rk_26 : rootP 103 true = 2952996808 := by kernel_rfl
theorem rk_27 : rootP 107 true = 3210313671 := by kernel_rfl
theorem rk_28 : rootP 109 true = 3336571891 := by kernel_rfl
theorem rk_29 : rootP 113 true = 3584528711 := by kernel_rfl
theorem rk_30 : rootP 127 true = 113926993 := by kernel_rfl
theorem rk_31 : rootP 131 true = 338241895 := by kernel_rfl
theorem rk_32 : rootP 137 true = 666307205 := by kernel_rfl
theorem rk_33 : rootP 139 true = 773529912 := by kernel_rfl
theorem rk_34 : rootP 149 true = 1294757372 := by kernel_rfl
theorem rk_35 : rootP 151 true = 1396182291 := by kernel_rfl
theorem rk_36 : rootP 157 true = 1695183700 := by kernel_rfl
theorem rk_37 : rootP 163 true = 1986661051 := by kernel_rfl
theorem rk_38 : rootP 167 true = 2177026350 := by kernel_rfl
theorem rk_39 : rootP 173 true = 2456956037 := by kernel_rfl
theorem rk_40 : rootP 179 true = 2730485921 := by kernel_rfl
theorem rk_41 : rootP 181 true = 2820302411 := by kernel_rfl
theorem rk_42 : rootP 191 true = 3259730800 := by kernel_rfl
theorem rk_43 : rootP 193 true = 3345764771 := by kernel_rfl
theorem rk_44 : rootP 197 true = 3516065817 := by kernel_rfl
theorem rk_45 : rootP 199 true = 3600352804 := by kernel_rfl
theorem rk_46 : rootP 211 true = 4094571909 := by kernel_rfl
theorem rk_47 : rootP 223 true = 275423344 := by kernel_rfl
theorem rk_48 : rootP 227 true = 430227734 := by kernel_rfl
theorem rk_49 : rootP 229 true = 506948616 := by kernel_rfl
theorem rk_50 : rootP 233 true = 659060556 := by kernel_rfl
theorem rk_51 : rootP 239 true = 883997877 := by kernel_rfl
theorem rk_52 : rootP 241 true = 958139571 := by kernel_rfl
theorem rk_53 : rootP 251 true = 1322822218 := by kernel_rfl
theorem rk_54 : rootP 257 true = 1537002063 := by kernel_rfl
theorem rk_55 : rootP 263 true = 1747873779 := by kernel_rfl
theorem rk_56 : rootP 269 true = 1955562222 := by kernel_rfl
theorem rk_57 : rootP 271 true = 2024104815 := by kernel_rfl
theorem rk_58 : rootP 277 true = 2227730452 := by kernel_rfl
theorem rk_59 : rootP 281 true = 2361852424 := by kernel_rfl
theorem rk_60 : rootP 283 true = 2428436474 := by kernel_rfl
theorem rk_61 : rootP 293 true = 2756734187 := by kernel_rfl
theorem rk_62 : rootP 307 true = 3204031479 := by kernel_rfl
theorem rk_63 : rootP 311 true = 3329325298 := by kernel_rfl
theorem rh_0 : rootP 2 false = 1779033703 := by kernel_rfl
theorem rh_1 : rootP 3 false = 3144134277 := by kernel_rfl
theorem rh_2 : rootP 5 false = 1013904242 := by kernel_rfl
theorem rh_3 : rootP 7 false = 2773480762 := by kernel_rfl
theorem rh_4 : rootP 11 false = 1359893119 := by kernel_rfl
theorem rh_5 : rootP 13 false = 2600822924 := by kernel_rfl
theorem rh_6 : rootP 17 false = 528734635 := by kernel_rfl
theorem rh_7 : rootP 19 false = 1541459225 := by kernel_rfl
theorem made_K_eq : rootsK primeL 64 0 [] = tabK := by
  rw [rootsK_eq primeL 64 0 [] (by rw [primeL_eq]; rfl), primeL_eq]
  simp only [List.drop_zero, List.nil_append, List.map_cons, List.map_nil, rk_0, rk_1, rk_2, rk_3, rk_4, rk_5, rk_6, rk_7, rk_8, rk_9, rk_10, rk_11, rk_12, rk_13, rk_14, rk_15, rk_16, rk_17, rk_18, rk_19, rk_20, rk_21, rk_22, rk_23, rk_24, rk_25, rk_26, rk_27, rk_28, rk_29, rk_30, rk_31, rk_32, rk_33, rk_34, rk_35, rk_36, rk_37, rk_38, rk_39, rk_40, rk_41, rk_42, rk_43, rk_44, rk_45, rk_46, rk_47, rk_48, rk_49, rk_50, rk_51, rk_52, rk_53, rk_54, rk_55, rk_56, rk_57, rk_58, rk_59, rk_60, rk_61, rk_62, rk_63]
  rfl
theorem ref01_Made_ev : Ev tab G0 n_ref01_Made [] [] = some ([avTb tabK V1], []) := by
  rw [made_av, made_K_eq, primeL_eq]
  simp only [List.getD_cons_zero, List.getD_cons_succ, rh_0, rh_1, rh_2, rh_3, rh_4, rh_5, rh_6, rh_7]
  rfl

end Go.Proofs.YtdngljdbgepaiaaGreatDoor
