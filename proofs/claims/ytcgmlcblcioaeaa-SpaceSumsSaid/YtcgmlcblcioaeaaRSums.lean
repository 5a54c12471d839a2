/- SpaceSums of the given program returns true for every input, and its arguments read as they did: there is no further condition. -/
import Derived.Test.YtcgmlcblcioaeaaRows
import Derived.Test.YtcgmlcblcioaeaaPC
import Derived.Test.YtcgmlcblcioaeaaQ
import Derived.Test.YtcgmlcblcioaeaaQ2
import Derived.ProofKit
import Derived.ShutString
import Derived.SizedLaws
namespace Go.Proofs.Ytcgmlcblcioaeaa
open Go.ChangeShapes Go.WideShapes Go.ChangeAt Go.RowKit
open Go.WideMaps Go.WideElems
open Go.ChangeMaps (setBlock shut_map_nil open_string shut_string keptBut_setBlock frozen?_setBlock heap_setBlock_same)

set_option maxRecDepth 100000 in
theorem spaceSums_lifted (os : Os) (started : os.Started) (H : Type) (enc : TypeId × Value → H) :
    ReturnsInHanded {} Try.checked os 6 .any (Rows.spaceSumsSpec.pre6 enc Try.prog Try.f6 Rows.spaceSumsRow.domain false) (Rows.spaceSumsSpec.post enc Try.prog Try.f6 false true false false) := by
  refine returnsInHanded_of_change_sized (C := Try.checked) own_knob started (by kernel_rfl) Try.func6
    (ChangeSpec.witness6 (enc := enc) (C := Try.checked) false ⟨#[], #[.slice none 0 0, .int .u64 0, .int .i64 0, .int .i64 0], []⟩ 8 (by kernel_rfl) (by kernel_rfl) (by kernel_rfl) (by kernel_rfl)) ?_
  intro W base args ds gs before hval0 hW _ hsz0 _
  have hsz : (DataW.weightsEach Try.prog (Try.f6.params.toList ++ Rows.spaceSumsSpec.plain.varTypes Try.prog) (ds ++ gs)).all (· ≤ reachBytes) = true := hsz0
  clear hsz0
  have hval : ∀ (j : Nat) t v, Try.f6.params[j]? = some t → args[j]? = some v → Value.okWide Try.prog W .any base t v := hval0
  have hW' := hW
  obtain ⟨p, q, hA0, hV, rfl, _, _⟩ := hW
  have hA : DataW.TrodAll enc Try.prog W 0 (fun _ => true) true Try.f6.params.toList args.toList ds p := hA0
  rw [Try.params6] at hA hval hsz
  obtain ⟨v0, v1, v2, v3, d0, d1, d2, d3, p0, p1, p2, p3, rfl, rfl, rfl, h0, h1, h2, h3⟩ := trodAll_four hA
  obtain ⟨rfl, rfl⟩ := trodVars_none hV
  obtain ⟨addr, rfl, rfl, rfl, waddr⟩ := open_int Try.underlying23 (hval 1 23 v1 rfl rfl) h1
  obtain ⟨n, rfl, rfl, rfl, wn⟩ := open_int Try.underlying3 (hval 2 3 v2 rfl rfl) h2
  obtain ⟨need, rfl, rfl, rfl, wneed⟩ := open_int Try.underlying3 (hval 3 3 v3 rfl rfl) h3
  have h0k := h0
  obtain ⟨fuel0, hf0⟩ := h0
  obtain ⟨a0, len0, cap0, rfl⟩ := okWide_slice Try.underlying22 (hval 0 22 v0 rfl rfl)
  clear hA0 hval0
  simp only [List.append_nil] at hW'
  have hlt0 : ∀ x ∈ p0, x.block < W.heap.size := fun x hx => by simpa using hW'.lt x (by simp [hx])
  obtain ⟨l, hll, hr, hok, hd⟩ := read_maps hf0
  have hs := sized_maps hsz hll (j := 0) rfl rfl hd
  obtain ⟨hC, hc⟩ := C_of_rows hr
  obtain ⟨k, hk⟩ := YtcgmlcblcioaeaaP.sums_f (l.map YtcgmlcblcioaeaaZ.ofMp) (by rw [List.length_map]; omega) addr n need (lit_un waddr).1
  have hcall := YtcgmlcblcioaeaaZ.gatehouselaw05_SpaceSums.calls k a0 cap0 (l.map YtcgmlcblcioaeaaZ.ofMp) addr n need true W (by rw [List.length_map]; exact hC) (by rw [List.length_map]; exact hc) hk
  rw [List.length_map, hll] at hcall
  refine hcall.mono fun e W' ⟨he, hb⟩ => ?_
  subst he
  exact ⟨_, rfl, _, _, _, [], _, [], hW', trodAll_mk1 (shut_bool Try.underlying4 true),
    trodAll_mk4 (Below.trod laid_out (by kernel_rfl) (of_decide_eq_true (by kernel_rfl)) h0k hb hlt0) (shut_int Try.underlying23 waddr) (shut_int Try.underlying3 wn) (shut_int Try.underlying3 wneed), rfl, hb.frame _, fun h => by cases h⟩

theorem spaceSums_holds : Rows.SpaceSumsSaid :=
  OpenClaim.holds_of_wide 6 Try.f6 rfl rfl rfl rfl rfl rfl rfl ⟨rfl, rfl, rfl, rfl, rfl⟩ rfl rfl rfl rfl rfl (by kernel_rfl) Try.func6 (by kernel_rfl)
    (of_decide_eq_true (by kernel_rfl)) (by unfold Func.isWrapper; first | (rw [if_pos (by decide +kernel)]; kernel_rfl) | (rw [if_neg (by decide +kernel)]; exact ⟨rfl, rfl⟩))
    (fun os started H enc _ => spaceSums_lifted os started H enc)
end Go.Proofs.Ytcgmlcblcioaeaa
