import Derived.Test.YtnddocchfkhlbaaProg
import Derived.Test.YtnddocchfkhlbaaD
import Derived.WalkKit
import Derived.Below
import Derived.Lib.Hide
import Derived.Deep.QuietTactic
import Derived.BigQuiet
import Derived.Outline
import Derived.WalkSpells
import Derived.WalkLawsBesides
import Derived.Deep.LoopGhost
import Derived.Laws.ResultCell
import Derived.Deep.OwnRows
import Derived.Deep.WholeRow
import Derived.Deep.DeepCutAuto
import Derived.Deep.CutBlock
namespace Go.Proofs.Ytnddocchfkhlbaa
open Go.RowKit

theorem rot_any (x k s : Int) (w : World) (hs : bits BinOp.and IntKind.u64 (IntKind.u64.wrap k) 31 = s) (h0 : 0 ≤ s) (h1 : s ≤ 31) :
    Calls Try.prog 37 #[.int .u32 x, .int .i64 k] w fun e w' => e = .returned (.int .u32 (rl s x)) ∧ w = w' := by
  go_enter Try.func37, Try.ntmps37
  go_wp2
  go_ret
  exact ⟨rfl, rfl⟩

def KA : Array Value := #[Value.int .u32 1116352408, Value.int .u32 1899447441, Value.int .u32 3049323471, Value.int .u32 3921009573, Value.int .u32 961987163, Value.int .u32 1508970993, Value.int .u32 2453635748, Value.int .u32 2870763221, Value.int .u32 3624381080, Value.int .u32 310598401, Value.int .u32 607225278, Value.int .u32 1426881987, Value.int .u32 1925078388, Value.int .u32 2162078206, Value.int .u32 2614888103, Value.int .u32 3248222580, Value.int .u32 3835390401, Value.int .u32 4022224774, Value.int .u32 264347078, Value.int .u32 604807628, Value.int .u32 770255983, Value.int .u32 1249150122, Value.int .u32 1555081692, Value.int .u32 1996064986, Value.int .u32 2554220882, Value.int .u32 2821834349, Value.int .u32 2952996808, Value.int .u32 3210313671, Value.int .u32 3336571891, Value.int .u32 3584528711, Value.int .u32 113926993, Value.int .u32 338241895, Value.int .u32 666307205, Value.int .u32 773529912, Value.int .u32 1294757372, Value.int .u32 1396182291, Value.int .u32 1695183700, Value.int .u32 1986661051, Value.int .u32 2177026350, Value.int .u32 2456956037, Value.int .u32 2730485921, Value.int .u32 2820302411, Value.int .u32 3259730800, Value.int .u32 3345764771, Value.int .u32 3516065817, Value.int .u32 3600352804, Value.int .u32 4094571909, Value.int .u32 275423344, Value.int .u32 430227734, Value.int .u32 506948616, Value.int .u32 659060556, Value.int .u32 883997877, Value.int .u32 958139571, Value.int .u32 1322822218, Value.int .u32 1537002063, Value.int .u32 1747873779, Value.int .u32 1955562222, Value.int .u32 2024104815, Value.int .u32 2227730452, Value.int .u32 2361852424, Value.int .u32 2428436474, Value.int .u32 2756734187, Value.int .u32 3204031479, Value.int .u32 3329325298]
def FA : Array Value := #[Value.int .u32 1779033703, Value.int .u32 3144134277, Value.int .u32 1013904242, Value.int .u32 2773480762, Value.int .u32 1359893119, Value.int .u32 2600822924, Value.int .u32 528734635, Value.int .u32 1541459225]

set_option maxRecDepth 100000 in
theorem first_any (w : World) :
    Calls Try.prog 28 #[] w fun e w' => e = .returned (.agg FA) ∧ w.alloc (.cells FA 49) = w' := by
  go_enter Try.func28, Try.ntmps28
  go_wp2
  refine bodyPost_ret (v := .agg FA) ?_ rfl ⟨rfl, rfl⟩
  exact results_cell_row Try.results28 _ _ w.heap.size 49 FA (0, 0) _ rfl (heap_alloc_new _ _) Try.underlying49 rfl (by kernel_rfl)

theorem wpList_value {P : Program} {ops : Array Oper} {Q : Exit → Act → World → Prop} {o : Oper} {rest : List Oper} {a : Act} {w w' : World} {v : Value} (hg : o.guard = none)
    (h : (execOp a.eval o).run P w = .ok (.value v) w') (k : wpList P ops Q rest (a.put o.dst v) w') : wpList P ops Q (o :: rest) a w :=
  wpList_plain hg fun K hK => by unfold Oper.wp; rw [h, Oper.upon_value]; exact hK _ _ k
theorem wpList_same {P : Program} {ops : Array Oper} {Q : Exit → Act → World → Prop} {o : Oper} {rest : List Oper} {a : Act} {w : World} {v : Value} (hg : o.guard = none)
    (h : (execOp a.eval o).run P w = .ok (.value v) w) (k : wpList P ops Q rest (a.put o.dst v) w) : wpList P ops Q (o :: rest) a w := wpList_value hg h k
theorem wpList_store {P : Program} {ops : Array Oper} {Q : Exit → Act → World → Prop} {o : Oper} {rest : List Oper} {a : Act} {w w' : World} (t : TypeId) (x y : Operand) (ho : o.op = .store t x y) (hg : o.guard = none)
    (h : (Instr.storeAt t (a.eval x) (a.eval y)).run P w = .ok () w') (k : wpList P ops Q rest (a.put o.dst undef) w') : wpList P ops Q (o :: rest) a w :=
  wpList_plain hg fun K hK => by
    have e : (execOp a.eval o).run P w = .ok .skip w' := by
      unfold execOp; rw [ho]; simp only [Sem.run_bind, h, Result.andThen, Sem.run_pure]
    unfold Oper.wp; rw [e, Oper.upon_skip]; exact hK _ _ k

set_option maxRecDepth 100000 in
theorem constants_any (w : World) :
    Calls Try.prog 38 #[] w fun e w' => e = .returned (.agg KA) ∧ w.alloc (.cells KA 40) = w' := by
  go_enter Try.func38, Try.ntmps38
  go_upto_region 1 with fail
  apply wp_region_lit
  refine wpList_same (v := .agg KA) rfl (by kernel_rfl) ?_
  refine wpList_store 40 _ _ rfl rfl (run_storeAt_new w 40 _ KA (by kernel_rfl) (by kernel_rfl) (by kernel_rfl)) ?_
  apply wpList_nil
  go_wp2
  refine bodyPost_ret (v := .agg KA) ?_ rfl ⟨rfl, rfl⟩
  exact results_cell_row Try.results38 _ _ w.heap.size 40 KA (0, 0) _ rfl (heap_alloc_new _ _) Try.underlying40 rfl (by kernel_rfl)
end Go.Proofs.Ytnddocchfkhlbaa
