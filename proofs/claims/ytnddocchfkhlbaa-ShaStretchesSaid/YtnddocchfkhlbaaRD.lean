import Derived.Test.YtnddocchfkhlbaaD
import Derived.Test.YtnddocchfkhlbaaZ12
import Derived.Test.YtnddocchfkhlbaaZ13
namespace Go.Proofs.Ytnddocchfkhlbaa
open Go.RowKit Go.Proofs.YtnddocchfkhlbaaZ
/-! The reference's numbers, out of the primes. -/
def PV (i : Nat) : Int := ([2, 3, 5, 7, 11, 13, 17, 19, 23, 29, 31, 37, 41, 43, 47, 53, 59, 61, 67, 71, 73, 79, 83, 89, 97, 101, 103, 107, 109, 113, 127, 131, 137, 139, 149, 151, 157, 163, 167, 173, 179, 181, 191, 193, 197, 199, 211, 223, 227, 229, 233, 239, 241, 251, 257, 263, 269, 271, 277, 281, 283, 293, 307, 311].getD i 0 : Nat)
theorem prime_0 : gatehouseref15_prime.f 20000 0 = some 2 := by kernel_rfl
theorem prime_1 : gatehouseref15_prime.f 20000 1 = some 3 := by kernel_rfl
theorem prime_2 : gatehouseref15_prime.f 20000 2 = some 5 := by kernel_rfl
theorem prime_3 : gatehouseref15_prime.f 20000 3 = some 7 := by kernel_rfl
theorem prime_4 : gatehouseref15_prime.f 20000 4 = some 11 := by kernel_rfl
theorem prime_5 : gatehouseref15_prime.f 20000 5 = some 13 := by kernel_rfl
theorem prime_6 : gatehouseref15_prime.f 20000 6 = some 17 := by kernel_rfl
theorem prime_7 : gatehouseref15_prime.f 20000 7 = some 19 := by kernel_rfl
theorem prime_8 : gatehouseref15_prime.f 20000 8 = some 23 := by kernel_rfl
theorem prime_9 : gatehouseref15_prime.f 20000 9 = some 29 := by kernel_rfl
theorem prime_10 : gatehouseref15_prime.f 20000 10 = some 31 := by kernel_rfl
theorem prime_11 : gatehouseref15_prime.f 20000 11 = some 37 := by kernel_rfl
theorem prime_12 : gatehouseref15_prime.f 20000 12 = some 41 := by kernel_rfl
theorem prime_13 : gatehouseref15_prime.f 20000 13 = some 43 := by kernel_rfl
theorem prime_14 : gatehouseref15_prime.f 20000 14 = some 47 := by kernel_rfl
theorem prime_15 : gatehouseref15_prime.f 20000 15 = some 53 := by kernel_rfl
theorem prime_16 : gatehouseref15_prime.f 20000 16 = some 59 := by kernel_rfl
theorem prime_17 : gatehouseref15_prime.f 20000 17 = some 61 := by kernel_rfl
theorem prime_18 : gatehouseref15_prime.f 20000 18 = some 67 := by kernel_rfl
theorem prime_19 : gatehouseref15_prime.f 20000 19 = some 71 := by kernel_rfl
theorem prime_20 : gatehouseref15_prime.f 20000 20 = some 73 := by kernel_rfl
theorem prime_21 : gatehouseref15_prime.f 20000 21 = some 79 := by kernel_rfl
theorem prime_22 : gatehouseref15_prime.f 20000 22 = some 83 := by kernel_rfl
theorem prime_23 : gatehouseref15_prime.f 20000 23 = some 89 := by kernel_rfl
theorem prime_24 : gatehouseref15_prime.f 20000 24 = some 97 := by kernel_rfl
theorem prime_25 : gatehouseref15_prime.f 20000 25 = some 101 := by kernel_rfl
theorem prime_26 : gatehouseref15_prime.f 20000 26 = some 103 := by kernel_rfl
theorem prime_27 : gatehouseref15_prime.f 20000 27 = some 107 := by kernel_rfl
theorem prime_28 : gatehouseref15_prime.f 20000 28 = some 109 := by kernel_rfl
theorem prime_29 : gatehouseref15_prime.f 20000 29 = some 113 := by kernel_rfl
theorem prime_30 : gatehouseref15_prime.f 20000 30 = some 127 := by kernel_rfl
theorem prime_31 : gatehouseref15_prime.f 20000 31 = some 131 := by kernel_rfl
theorem prime_32 : gatehouseref15_prime.f 20000 32 = some 137 := by kernel_rfl
theorem prime_33 : gatehouseref15_prime.f 20000 33 = some 139 := by kernel_rfl
theorem prime_34 : gatehouseref15_prime.f 20000 34 = some 149 := by kernel_rfl
theorem prime_35 : gatehouseref15_prime.f 20000 35 = some 151 := by kernel_rfl
theorem prime_36 : gatehouseref15_prime.f 20000 36 = some 157 := by kernel_rfl
theorem prime_37 : gatehouseref15_prime.f 20000 37 = some 163 := by kernel_rfl
theorem prime_38 : gatehouseref15_prime.f 20000 38 = some 167 := by kernel_rfl
theorem prime_39 : gatehouseref15_prime.f 20000 39 = some 173 := by kernel_rfl
theorem prime_40 : gatehouseref15_prime.f 20000 40 = some 179 := by kernel_rfl
theorem prime_41 : gatehouseref15_prime.f 20000 41 = some 181 := by kernel_rfl
theorem prime_42 : gatehouseref15_prime.f 20000 42 = some 191 := by kernel_rfl
theorem prime_43 : gatehouseref15_prime.f 20000 43 = some 193 := by kernel_rfl
theorem prime_44 : gatehouseref15_prime.f 20000 44 = some 197 := by kernel_rfl
theorem prime_45 : gatehouseref15_prime.f 20000 45 = some 199 := by kernel_rfl
theorem prime_46 : gatehouseref15_prime.f 20000 46 = some 211 := by kernel_rfl
theorem prime_47 : gatehouseref15_prime.f 20000 47 = some 223 := by kernel_rfl
theorem prime_48 : gatehouseref15_prime.f 20000 48 = some 227 := by kernel_rfl
theorem prime_49 : gatehouseref15_prime.f 20000 49 = some 229 := by kernel_rfl
theorem prime_50 : gatehouseref15_prime.f 20000 50 = some 233 := by kernel_rfl
theorem prime_51 : gatehouseref15_prime.f 20000 51 = some 239 := by kernel_rfl
theorem prime_52 : gatehouseref15_prime.f 20000 52 = some 241 := by kernel_rfl
theorem prime_53 : gatehouseref15_prime.f 20000 53 = some 251 := by kernel_rfl
theorem prime_54 : gatehouseref15_prime.f 20000 54 = some 257 := by kernel_rfl
theorem prime_55 : gatehouseref15_prime.f 20000 55 = some 263 := by kernel_rfl
theorem prime_56 : gatehouseref15_prime.f 20000 56 = some 269 := by kernel_rfl
theorem prime_57 : gatehouseref15_prime.f 20000 57 = some 271 := by kernel_rfl
theorem prime_58 : gatehouseref15_prime.f 20000 58 = some 277 := by kernel_rfl
theorem prime_59 : gatehouseref15_prime.f 20000 59 = some 281 := by kernel_rfl
theorem prime_60 : gatehouseref15_prime.f 20000 60 = some 283 := by kernel_rfl
theorem prime_61 : gatehouseref15_prime.f 20000 61 = some 293 := by kernel_rfl
theorem prime_62 : gatehouseref15_prime.f 20000 62 = some 307 := by kernel_rfl
theorem prime_63 : gatehouseref15_prime.f 20000 63 = some 311 := by kernel_rfl
theorem prime_at : ∀ (i : Nat), i < 64 → gatehouseref15_prime.f 20000 i = some (PV i)
  | 0, _ => prime_0
  | 1, _ => prime_1
  | 2, _ => prime_2
  | 3, _ => prime_3
  | 4, _ => prime_4
  | 5, _ => prime_5
  | 6, _ => prime_6
  | 7, _ => prime_7
  | 8, _ => prime_8
  | 9, _ => prime_9
  | 10, _ => prime_10
  | 11, _ => prime_11
  | 12, _ => prime_12
  | 13, _ => prime_13
  | 14, _ => prime_14
  | 15, _ => prime_15
  | 16, _ => prime_16
  | 17, _ => prime_17
  | 18, _ => prime_18
  | 19, _ => prime_19
  | 20, _ => prime_20
  | 21, _ => prime_21
  | 22, _ => prime_22
  | 23, _ => prime_23
  | 24, _ => prime_24
  | 25, _ => prime_25
  | 26, _ => prime_26
  | 27, _ => prime_27
  | 28, _ => prime_28
  | 29, _ => prime_29
  | 30, _ => prime_30
  | 31, _ => prime_31
  | 32, _ => prime_32
  | 33, _ => prime_33
  | 34, _ => prime_34
  | 35, _ => prime_35
  | 36, _ => prime_36
  | 37, _ => prime_37
  | 38, _ => prime_38
  | 39, _ => prime_39
  | 40, _ => prime_40
  | 41, _ => prime_41
  | 42, _ => prime_42
  | 43, _ => prime_43
  | 44, _ => prime_44
  | 45, _ => prime_45
  | 46, _ => prime_46
  | 47, _ => prime_47
  | 48, _ => prime_48
  | 49, _ => prime_49
  | 50, _ => prime_50
  | 51, _ => prime_51
  | 52, _ => prime_52
  | 53, _ => prime_53
  | 54, _ => prime_54
  | 55, _ => prime_55
  | 56, _ => prime_56
  | 57, _ => prime_57
  | 58, _ => prime_58
  | 59, _ => prime_59
  | 60, _ => prime_60
  | 61, _ => prime_61
  | 62, _ => prime_62
  | 63, _ => prime_63
  | i + 64, h => absurd h (by omega)
theorem root3_0 : gatehouseref15_root.f 200 2 3 = some 1116352408 := by kernel_rfl
theorem root3_1 : gatehouseref15_root.f 200 3 3 = some 1899447441 := by kernel_rfl
theorem root3_2 : gatehouseref15_root.f 200 5 3 = some 3049323471 := by kernel_rfl
theorem root3_3 : gatehouseref15_root.f 200 7 3 = some 3921009573 := by kernel_rfl
theorem root3_4 : gatehouseref15_root.f 200 11 3 = some 961987163 := by kernel_rfl
theorem root3_5 : gatehouseref15_root.f 200 13 3 = some 1508970993 := by kernel_rfl
theorem root3_6 : gatehouseref15_root.f 200 17 3 = some 2453635748 := by kernel_rfl
theorem root3_7 : gatehouseref15_root.f 200 19 3 = some 2870763221 := by kernel_rfl
theorem root3_8 : gatehouseref15_root.f 200 23 3 = some 3624381080 := by kernel_rfl
theorem root3_9 : gatehouseref15_root.f 200 29 3 = some 310598401 := by kernel_rfl
theorem root3_10 : gatehouseref15_root.f 200 31 3 = some 607225278 := by kernel_rfl
theorem root3_11 : gatehouseref15_root.f 200 37 3 = some 1426881987 := by kernel_rfl
theorem root3_12 : gatehouseref15_root.f 200 41 3 = some 1925078388 := by kernel_rfl
theorem root3_13 : gatehouseref15_root.f 200 43 3 = some 2162078206 := by kernel_rfl
theorem root3_14 : gatehouseref15_root.f 200 47 3 = some 2614888103 := by kernel_rfl
theorem root3_15 : gatehouseref15_root.f 200 53 3 = some 3248222580 := by kernel_rfl
theorem root3_16 : gatehouseref15_root.f 200 59 3 = some 3835390401 := by kernel_rfl
theorem root3_17 : gatehouseref15_root.f 200 61 3 = some 4022224774 := by kernel_rfl
theorem root3_18 : gatehouseref15_root.f 200 67 3 = some 264347078 := by kernel_rfl
theorem root3_19 : gatehouseref15_root.f 200 71 3 = some 604807628 := by kernel_rfl
theorem root3_20 : gatehouseref15_root.f 200 73 3 = some 770255983 := by kernel_rfl
theorem root3_21 : gatehouseref15_root.f 200 79 3 = some 1249150122 := by kernel_rfl
theorem root3_22 : gatehouseref15_root.f 200 83 3 = some 1555081692 := by kernel_rfl
theorem root3_23 : gatehouseref15_root.f 200 89 3 = some 1996064986 := by kernel_rfl
theorem root3_24 : gatehouseref15_root.f 200 97 3 = some 2554220882 := by kernel_rfl
theorem root3_25 : gatehouseref15_root.f 200 101 3 = some 2821834349 := by kernel_rfl
theorem root3_26 : gatehouseref15_root.f 200 103 3 = some 2952996808 := by kernel_rfl
theorem root3_27 : gatehouseref15_root.f 200 107 3 = some 3210313671 := by kernel_rfl
theorem root3_28 : gatehouseref15_root.f 200 109 3 = some 3336571891 := by kernel_rfl
theorem root3_29 : gatehouseref15_root.f 200 113 3 = some 3584528711 := by kernel_rfl
theorem root3_30 : gatehouseref15_root.f 200 127 3 = some 113926993 := by kernel_rfl
theorem root3_31 : gatehouseref15_root.f 200 131 3 = some 338241895 := by kernel_rfl
theorem root3_32 : gatehouseref15_root.f 200 137 3 = some 666307205 := by kernel_rfl
theorem root3_33 : gatehouseref15_root.f 200 139 3 = some 773529912 := by kernel_rfl
theorem root3_34 : gatehouseref15_root.f 200 149 3 = some 1294757372 := by kernel_rfl
theorem root3_35 : gatehouseref15_root.f 200 151 3 = some 1396182291 := by kernel_rfl
theorem root3_36 : gatehouseref15_root.f 200 157 3 = some 1695183700 := by kernel_rfl
theorem root3_37 : gatehouseref15_root.f 200 163 3 = some 1986661051 := by kernel_rfl
theorem root3_38 : gatehouseref15_root.f 200 167 3 = some 2177026350 := by kernel_rfl
theorem root3_39 : gatehouseref15_root.f 200 173 3 = some 2456956037 := by kernel_rfl
theorem root3_40 : gatehouseref15_root.f 200 179 3 = some 2730485921 := by kernel_rfl
theorem root3_41 : gatehouseref15_root.f 200 181 3 = some 2820302411 := by kernel_rfl
theorem root3_42 : gatehouseref15_root.f 200 191 3 = some 3259730800 := by kernel_rfl
theorem root3_43 : gatehouseref15_root.f 200 193 3 = some 3345764771 := by kernel_rfl
theorem root3_44 : gatehouseref15_root.f 200 197 3 = some 3516065817 := by kernel_rfl
theorem root3_45 : gatehouseref15_root.f 200 199 3 = some 3600352804 := by kernel_rfl
theorem root3_46 : gatehouseref15_root.f 200 211 3 = some 4094571909 := by kernel_rfl
theorem root3_47 : gatehouseref15_root.f 200 223 3 = some 275423344 := by kernel_rfl
theorem root3_48 : gatehouseref15_root.f 200 227 3 = some 430227734 := by kernel_rfl
theorem root3_49 : gatehouseref15_root.f 200 229 3 = some 506948616 := by kernel_rfl
theorem root3_50 : gatehouseref15_root.f 200 233 3 = some 659060556 := by kernel_rfl
theorem root3_51 : gatehouseref15_root.f 200 239 3 = some 883997877 := by kernel_rfl
theorem root3_52 : gatehouseref15_root.f 200 241 3 = some 958139571 := by kernel_rfl
theorem root3_53 : gatehouseref15_root.f 200 251 3 = some 1322822218 := by kernel_rfl
theorem root3_54 : gatehouseref15_root.f 200 257 3 = some 1537002063 := by kernel_rfl
theorem root3_55 : gatehouseref15_root.f 200 263 3 = some 1747873779 := by kernel_rfl
theorem root3_56 : gatehouseref15_root.f 200 269 3 = some 1955562222 := by kernel_rfl
theorem root3_57 : gatehouseref15_root.f 200 271 3 = some 2024104815 := by kernel_rfl
theorem root3_58 : gatehouseref15_root.f 200 277 3 = some 2227730452 := by kernel_rfl
theorem root3_59 : gatehouseref15_root.f 200 281 3 = some 2361852424 := by kernel_rfl
theorem root3_60 : gatehouseref15_root.f 200 283 3 = some 2428436474 := by kernel_rfl
theorem root3_61 : gatehouseref15_root.f 200 293 3 = some 2756734187 := by kernel_rfl
theorem root3_62 : gatehouseref15_root.f 200 307 3 = some 3204031479 := by kernel_rfl
theorem root3_63 : gatehouseref15_root.f 200 311 3 = some 3329325298 := by kernel_rfl
theorem root2_0 : gatehouseref15_root.f 200 2 2 = some 1779033703 := by kernel_rfl
theorem root2_1 : gatehouseref15_root.f 200 3 2 = some 3144134277 := by kernel_rfl
theorem root2_2 : gatehouseref15_root.f 200 5 2 = some 1013904242 := by kernel_rfl
theorem root2_3 : gatehouseref15_root.f 200 7 2 = some 2773480762 := by kernel_rfl
theorem root2_4 : gatehouseref15_root.f 200 11 2 = some 1359893119 := by kernel_rfl
theorem root2_5 : gatehouseref15_root.f 200 13 2 = some 2600822924 := by kernel_rfl
theorem root2_6 : gatehouseref15_root.f 200 17 2 = some 528734635 := by kernel_rfl
theorem root2_7 : gatehouseref15_root.f 200 19 2 = some 1541459225 := by kernel_rfl
theorem root3_at : ∀ (i : Nat), i < 64 → gatehouseref15_root.f 200 (PV i) 3 = some (KV i)
  | 0, _ => root3_0
  | 1, _ => root3_1
  | 2, _ => root3_2
  | 3, _ => root3_3
  | 4, _ => root3_4
  | 5, _ => root3_5
  | 6, _ => root3_6
  | 7, _ => root3_7
  | 8, _ => root3_8
  | 9, _ => root3_9
  | 10, _ => root3_10
  | 11, _ => root3_11
  | 12, _ => root3_12
  | 13, _ => root3_13
  | 14, _ => root3_14
  | 15, _ => root3_15
  | 16, _ => root3_16
  | 17, _ => root3_17
  | 18, _ => root3_18
  | 19, _ => root3_19
  | 20, _ => root3_20
  | 21, _ => root3_21
  | 22, _ => root3_22
  | 23, _ => root3_23
  | 24, _ => root3_24
  | 25, _ => root3_25
  | 26, _ => root3_26
  | 27, _ => root3_27
  | 28, _ => root3_28
  | 29, _ => root3_29
  | 30, _ => root3_30
  | 31, _ => root3_31
  | 32, _ => root3_32
  | 33, _ => root3_33
  | 34, _ => root3_34
  | 35, _ => root3_35
  | 36, _ => root3_36
  | 37, _ => root3_37
  | 38, _ => root3_38
  | 39, _ => root3_39
  | 40, _ => root3_40
  | 41, _ => root3_41
  | 42, _ => root3_42
  | 43, _ => root3_43
  | 44, _ => root3_44
  | 45, _ => root3_45
  | 46, _ => root3_46
  | 47, _ => root3_47
  | 48, _ => root3_48
  | 49, _ => root3_49
  | 50, _ => root3_50
  | 51, _ => root3_51
  | 52, _ => root3_52
  | 53, _ => root3_53
  | 54, _ => root3_54
  | 55, _ => root3_55
  | 56, _ => root3_56
  | 57, _ => root3_57
  | 58, _ => root3_58
  | 59, _ => root3_59
  | 60, _ => root3_60
  | 61, _ => root3_61
  | 62, _ => root3_62
  | 63, _ => root3_63
  | i + 64, h => absurd h (by omega)
theorem root2_at : ∀ (i : Nat), i < 8 → gatehouseref15_root.f 200 (PV i) 2 = some (FV i)
  | 0, _ => root2_0
  | 1, _ => root2_1
  | 2, _ => root2_2
  | 3, _ => root2_3
  | 4, _ => root2_4
  | 5, _ => root2_5
  | 6, _ => root2_6
  | 7, _ => root2_7
  | i + 8, h => absurd h (by omega)
end Go.Proofs.Ytnddocchfkhlbaa
