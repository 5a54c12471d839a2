/- SpaceRights of the given program returns true for every input, and its arguments read as they did: there is no further condition. -/
import Derived.Test.YtcgmlcblcioaeaaRows
import Derived.Test.YtcgmlcblcioaeaaY
import Derived.Test.YtcgmlcblcioaeaaQ
import Derived.ProofKit
import Derived.ShutString
import Derived.SizedLaws
namespace Go.Proofs.Ytcgmlcblcioaeaa
open Go.ChangeShapes Go.WideShapes Go.ChangeAt Go.RowKit
open Go.WideMaps Go.WideElems
open Go.ChangeMaps (setBlock shut_map_nil open_string shut_string keptBut_setBlock frozen?_setBlock heap_setBlock_same)

theorem own_knob : ownKnob Try.prog.godebug = none := by kernel_rfl
theorem laid_out : laidOutB Try.prog = true := by kernel_rfl
theorem bytes31 : Try.prog.bytesOf 31 = 48 := by kernel_rfl
theorem sized_maps {H : Type} {ts : List TypeId} {ds : List (DataW H)} (h : (DataW.weightsEach Try.prog ts ds).all (· ≤ reachBytes) = true) {j n : Nat} {d : DataW H} {l : List Mp} (hn : l.length = n)
    (ht : ts[j]? = some 22) (hd : ds[j]? = some d) (hx : d = .nil ∧ l = [] ∨ ∃ es sp, d = .slice es sp ∧ es.length = n) : l.length * 48 ≤ 140737488351232 := by
  rcases hx with ⟨_, rfl⟩ | ⟨es, sp, rfl, he⟩
  · simp
  · have := sized_slice h ht hd Try.underlying22
    rw [show reachBytes = 140737488351232 from rfl, bytes31] at this
    have h2 : l.length * 48 ≤ (es.length + sp.length) * 48 := Nat.mul_le_mul_right _ (by omega)
    omega
theorem lit_in {z : Int} (hz : (Lit.int .i64 z).wf = true) : in64 z := by
  unfold in64
  simpa [Lit.wf, IntKind.min, IntKind.max, IntKind.signed, IntKind.bits] using hz
theorem lit_un {z : Int} (hz : (Lit.int .u64 z).wf = true) : 0 ≤ z ∧ z ≤ 18446744073709551615 := by
  simpa [Lit.wf, IntKind.min, IntKind.max, IntKind.signed, IntKind.bits] using hz

set_option maxRecDepth 100000 in
theorem spaceRights_lifted (os : Os) (started : os.Started) (H : Type) (enc : TypeId × Value → H) :
    ReturnsInHanded {} Try.checked os 3 .any (Rows.spaceRightsSpec.pre6 enc Try.prog Try.f3 Rows.spaceRightsRow.domain false) (Rows.spaceRightsSpec.post enc Try.prog Try.f3 false true false false) := by
  refine returnsInHanded_of_change_sized (C := Try.checked) own_knob started (by kernel_rfl) Try.func3
    (ChangeSpec.witness6 (enc := enc) (C := Try.checked) false ⟨#[], #[.slice none 0 0, .int .u64 0, .int .i64 0], []⟩ 8 (by kernel_rfl) (by kernel_rfl) (by kernel_rfl) (by kernel_rfl)) ?_
  intro W base args ds gs before hval0 hW _ hsz0 _
  have hsz : (DataW.weightsEach Try.prog (Try.f3.params.toList ++ Rows.spaceRightsSpec.plain.varTypes Try.prog) (ds ++ gs)).all (· ≤ reachBytes) = true := hsz0
  clear hsz0
  have hval : ∀ (j : Nat) t v, Try.f3.params[j]? = some t → args[j]? = some v → Value.okWide Try.prog W .any base t v := hval0
  have hW' := hW
  obtain ⟨p, q, hA0, hV, rfl, _, _⟩ := hW
  have hA : DataW.TrodAll enc Try.prog W 0 (fun _ => true) true Try.f3.params.toList args.toList ds p := hA0
  rw [Try.params3] at hA hval hsz
  obtain ⟨v0, v1, v2, d0, d1, d2, p0, p1, p2, rfl, rfl, rfl, h0, h1, h2⟩ := trodAll_three hA
  obtain ⟨rfl, rfl⟩ := trodVars_none hV
  obtain ⟨addr, rfl, rfl, rfl, waddr⟩ := open_int Try.underlying23 (hval 1 23 v1 rfl rfl) h1
  obtain ⟨n, rfl, rfl, rfl, wn⟩ := open_int Try.underlying3 (hval 2 3 v2 rfl rfl) h2
  have h0k := h0
  obtain ⟨fuel0, hf0⟩ := h0
  obtain ⟨a0, len0, cap0, rfl⟩ := okWide_slice Try.underlying22 (hval 0 22 v0 rfl rfl)
  clear hA0 hval0
  simp only [List.append_nil] at hW'
  have hlt0 : ∀ x ∈ p0, x.block < W.heap.size := fun x hx => by simpa using hW'.lt x (by simp [hx])
  obtain ⟨l, hll, hr, hok, hd⟩ := read_maps hf0
  have hs := sized_maps hsz hll (j := 0) rfl rfl hd
  refine (rights_any _ l addr n W hr (lit_un waddr).1 (lit_in wn) hs).mono fun e W' ⟨he, hb⟩ => ?_
  subst he
  exact ⟨_, rfl, _, _, _, [], _, [], hW', trodAll_mk1 (shut_bool Try.underlying4 true),
    trodAll_mk3 (Below.trod laid_out (by kernel_rfl) (of_decide_eq_true (by kernel_rfl)) h0k hb hlt0) (shut_int Try.underlying23 waddr) (shut_int Try.underlying3 wn), rfl, hb.frame _, fun h => by cases h⟩

theorem spaceRights_holds : Rows.SpaceRightsSaid :=
  OpenClaim.holds_of_wide 3 Try.f3 rfl rfl rfl rfl rfl rfl rfl ⟨rfl, rfl, rfl, rfl, rfl⟩ rfl rfl rfl rfl rfl (by kernel_rfl) Try.func3 (by kernel_rfl)
    (of_decide_eq_true (by kernel_rfl)) (by unfold Func.isWrapper; first | (rw [if_pos (by decide +kernel)]; kernel_rfl) | (rw [if_neg (by decide +kernel)]; exact ⟨rfl, rfl⟩))
    (fun os started H enc _ => spaceRights_lifted os started H enc)
end Go.Proofs.Ytcgmlcblcioaeaa
