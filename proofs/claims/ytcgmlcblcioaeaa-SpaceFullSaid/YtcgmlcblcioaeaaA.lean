import Derived.Test.YtcgmlcblcioaeaaProg
import Derived.WalkKit
import Derived.WalkSpells
import Derived.WalkLawsBesides
import Derived.Lib.Hide
import Derived.Laws.Entries
import Derived.Deep.LoopGhost
namespace Go.Proofs.Ytcgmlcblcioaeaa
open Go.RowKit

/-- A mapping, as the program has it. -/
structure Mp where
  va : Int
  pages : Int
  inn : Int
  num : Int
  frm : Int
  wri : Bool
  run : Bool
def Mp.cell (m : Mp) : Nat → Value
  | 0 => .int .i64 m.va
  | 1 => .int .i64 m.pages
  | 2 => .int .i64 m.inn
  | 3 => .int .i64 m.num
  | 4 => .int .i64 m.frm
  | 5 => .bool m.wri
  | _ => .bool m.run
def Mp.val (m : Mp) : Value := .agg #[.int .i64 m.va, .int .i64 m.pages, .int .i64 m.inn, .int .i64 m.num, .int .i64 m.frm, .bool m.wri, .bool m.run]
def in64 (x : Int) : Prop := -9223372036854775808 ≤ x ∧ x ≤ 9223372036854775807
structure Mp.ok (m : Mp) : Prop where
  va : in64 m.va
  pages : in64 m.pages
  inn : in64 m.inn
  num : in64 m.num
  frm : in64 m.frm
def idOk (n : Int) : Bool := decide (1 ≤ n ∧ n ≤ 2305843009213693951)
def Mp.good (m : Mp) : Bool := decide (1 ≤ m.pages ∧ m.pages ≤ 64 ∧ 0 ≤ m.va ∧ m.va ≤ 67108864 - m.pages ∧ 0 ≤ m.frm ∧ m.frm ≤ 64 - m.pages ∧ idOk m.inn = true ∧ idOk m.num = true)

theorem id_any (n : Int) (w : World) : Calls Try.prog 34 #[.int .i64 n] w fun e w' => e = .returned (.bool (idOk n)) ∧ w' = w := by
  go_enter Try.func34, Try.ntmps34
  by_cases h1 : 1 ≤ n
  · go_wp2
    go_ret
    refine ⟨?_, rfl⟩
    simp [idOk, h1]
  · go_wp2
    go_ret
    have e : idOk n = false := decide_eq_false (by rintro ⟨a, b⟩; omega)
    exact ⟨by rw [e]; rfl, rfl⟩

theorem right_any (m : Mp) (w : World) : Calls Try.prog 23 #[m.val] w fun e w' => e = .returned (.bool m.good) ∧ Below w.heap.size w w' := by
  unfold Mp.val
  go_enter Try.func23, Try.ntmps23
  by_cases h1 : 1 ≤ m.pages
  · by_cases h2 : m.pages ≤ 64
    · by_cases h3 : 0 ≤ m.va
      · by_cases h4 : m.va ≤ 67108864 - m.pages
        · by_cases h5 : 0 ≤ m.frm
          · by_cases h6 : m.frm ≤ 64 - m.pages
            · go_wp2_with fail
              refine (id_any m.inn _).mono ?_
              rintro e w' ⟨rfl, rfl⟩
              cases hi : idOk m.inn
              · go_wp2
                go_ret
                have e : m.good = false := decide_eq_false (by rintro ⟨a1, a2, a3, a4, a5, a6, a7, a8⟩; rw [hi] at a7; cases a7)
                exact ⟨by rw [e]; rfl, (Below.refl _ _).alloc (Nat.le_refl _) _⟩
              · go_wp2_with fail
                refine (id_any m.num _).mono ?_
                rintro e w' ⟨rfl, rfl⟩
                have e : m.good = idOk m.num := by
                  unfold Mp.good
                  cases hn : idOk m.num
                  · exact decide_eq_false (by rintro ⟨a1, a2, a3, a4, a5, a6, a7, a8⟩; cases a8)
                  · exact decide_eq_true ⟨h1, h2, h3, h4, h5, h6, hi, rfl⟩
                go_wp2
                go_ret
                exact ⟨by rw [e]; rfl, (Below.refl _ _).alloc (Nat.le_refl _) _⟩
            · go_wp2
              go_ret
              have e : m.good = false := decide_eq_false (by rintro ⟨a1, a2, a3, a4, a5, a6, a7, a8⟩; omega)
              exact ⟨by rw [e]; rfl, (Below.refl _ _).alloc (Nat.le_refl _) _⟩
          · go_wp2
            go_ret
            have e : m.good = false := decide_eq_false (by rintro ⟨a1, a2, a3, a4, a5, a6, a7, a8⟩; omega)
            exact ⟨by rw [e]; rfl, (Below.refl _ _).alloc (Nat.le_refl _) _⟩
        · go_wp2
          go_ret
          have e : m.good = false := decide_eq_false (by rintro ⟨a1, a2, a3, a4, a5, a6, a7, a8⟩; omega)
          exact ⟨by rw [e]; rfl, (Below.refl _ _).alloc (Nat.le_refl _) _⟩
      · go_wp2
        go_ret
        have e : m.good = false := decide_eq_false (by rintro ⟨a1, a2, a3, a4, a5, a6, a7, a8⟩; omega)
        exact ⟨by rw [e]; rfl, (Below.refl _ _).alloc (Nat.le_refl _) _⟩
    · go_wp2
      go_ret
      have e : m.good = false := decide_eq_false (by rintro ⟨a1, a2, a3, a4, a5, a6, a7, a8⟩; omega)
      exact ⟨by rw [e]; rfl, (Below.refl _ _).alloc (Nat.le_refl _) _⟩
  · go_wp2
    go_ret
    have e : m.good = false := decide_eq_false (by rintro ⟨a1, a2, a3, a4, a5, a6, a7, a8⟩; omega)
    exact ⟨by rw [e]; rfl, (Below.refl _ _).alloc (Nat.le_refl _) _⟩
end Go.Proofs.Ytcgmlcblcioaeaa
