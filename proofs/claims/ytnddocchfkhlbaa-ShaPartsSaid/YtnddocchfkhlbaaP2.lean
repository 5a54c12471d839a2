import Derived.Test.YtnddocchfkhlbaaP
namespace Go.Proofs.Ytnddocchfkhlbaa
open Go.RowKit

set_option maxRecDepth 100000 in
set_option maxHeartbeats 1000000 in
theorem shaParts_any (pv av : Value) (n m : Nat) (ps : Nat → ByteArray) (ak : Nat → Bool) (o : ByteArray) (w : World)
    (hp : ReadAt w pv n (fun i => .string (ps i))) (hps : ∀ i, i < n → (ps i).size ≤ 140737488351232) (ha : ReadAt w av m (fun i => .bool (ak i))) (ho : o.size ≤ 140737488351232) :
    Calls Try.prog 4 #[pv, av, .string o] w fun e w' => e = .returned (.bool true) ∧ Below w.heap.size w w' := by
  obtain ⟨oa, cap, rfl, hn, hp⟩ := hp
  obtain ⟨ob, capb, rfl, hm, ha⟩ := ha
  have HP := Lib.hid hp
  have HA := Lib.hid ha
  have HS := Lib.hid hps
  clear hp ha hps
  unfold maxLen at hn hm
  go_enter Try.func4, Try.ntmps4
  go_wp2_with fail
  refine (lives_any w).mono ?_
  rintro e w1 ⟨rfl, hb1⟩
  go_wp2_with fail
  refine (hnew_any w1).mono ?_
  rintro e w2 ⟨p, rfl, hH, hb2⟩
  have hb := below_through hb1 hb2
  have hsz0 := hb2.size
  clear hb2
  go_wp2
  go_loopw [8, 17] (fun al i wr => ∃ (x : ByteArray) (k : Nat), al = .string x ∧ i = .int .i64 k ∧ k ≤ n ∧ x.size ≤ 4000 ∧ HashOf wr w1.heap.size p x.data.toList ∧ Below w.heap.size w wr ∧ w1.heap.size ≤ wr.heap.size) (fun _ i _ => (n - (intOf i).toNat))
  case atStart => exact ⟨⟨#[]⟩, 0, rfl, rfl, by omega, by decide, hH, hb, hsz0⟩
  case round =>
    obtain ⟨x, k, rfl, rfl, hk, hx, hHr, hbel, hsz⟩ := hrel
    clear hb hH
    by_cases hlt : k < n
    · obtain ⟨a, rfl, hab, hc0⟩ := HP.out k hlt
      have hc : wr.cell? (a.add k) = some (.string (ps k)) := by rw [hbel.cell (p := a.add k) (by exact hab)]; exact hc0
      have hpk := HS.out k hlt
      clear hc0
      by_cases h60 : k < 60
      · by_cases hsum : x.size + (ps k).size ≤ 4000
        · go_wp2_with fail
          refine (hadd_any wr _ p _ (ps k) hHr (by simp; omega)).mono ?_
          rintro e w3 ⟨rfl, hH3, hb3⟩
          have hbel3 : Below w.heap.size w w3 := hbel.trans (hb3.mono hb1.size)
          have hsz3 : w1.heap.size ≤ w3.heap.size := by have := hb3.size; omega
          by_cases hkm : k < m
          · obtain ⟨b, rfl, hbb, hc1⟩ := HA.out k hkm
            have hc2 : w3.cell? (b.add k) = some (.bool (ak k)) := by rw [hbel3.cell (p := b.add k) (by exact hbb)]; exact hc1
            clear hc1
            cases hak : ak k
            · rw [hak] at hc2
              go_wp2
              go_roundw
              case rel =>
                refine ⟨x ++ ps k, k + 1, rfl, by go_num, by omega, by rw [ByteArray.size_append]; exact hsum, by rw [cat_list]; exact hH3, hbel3, by omega⟩
              case measure => simp [intOf]; omega
            · rw [hak] at hc2
              go_wp2_with fail
              refine (hsumOf_any w3 _ p _ hH3 (by simp; omega)).mono ?_
              rintro e w4 ⟨rfl, hb4⟩
              go_wp2_with fail
              refine (sum_of (x ++ ps k) w4 (by rw [ByteArray.size_append]; omega)).mono ?_
              rintro e w5 ⟨rfl, hb5⟩
              rw [cat_list]
              have hH5 := (hH3.below hb4).below hb5
              go_wp2_with fail
              refine (hlen_any w5 _ p _ hH5).mono ?_
              rintro e w' ⟨rfl, rfl⟩
              go_wp2
              go_roundw
              case rel =>
                refine ⟨x ++ ps k, k + 1, rfl, by go_num, by omega, by rw [ByteArray.size_append]; exact hsum, by rw [cat_list]; exact hH5, (hbel3.trans (hb4.mono hbel3.size)).trans (hb5.mono (by have := hb4.size; have := hbel3.size; omega)), by have := hb4.size; have := hb5.size; omega⟩
              case measure => simp [intOf]; omega
          · go_wp2
            go_roundw
            case rel =>
              refine ⟨x ++ ps k, k + 1, rfl, by go_num, by omega, by rw [ByteArray.size_append]; exact hsum, by rw [cat_list]; exact hH3, hbel3, by omega⟩
            case measure => simp [intOf]; omega
        · by_cases h1000 : (o.size : Int) ≤ 1000
          · go_wp2_with fail
            refine (hcopy_any wr _ p _ hHr).mono ?_
            rintro e w4 ⟨q, rfl, hQ, hb4⟩
            go_wp2_with fail
            refine (hadd_any w4 _ q _ o hQ (by simp; omega)).mono ?_
            rintro e w5 ⟨rfl, hQ5, hb5⟩
            have hb45 := hb4.trans hb5
            have hH5 := hHr.below hb45
            have h5 : Below w.heap.size w w5 := below_through hbel hb45
            clear hb4 hb5 hQ hHr hb45
            go_wp2_with fail
            refine (hsumOf_any w5 _ p _ hH5 (by simp; omega)).mono ?_
            rintro e w6 ⟨rfl, hb6⟩
            go_wp2_with fail
            refine (sum_of x w6 (by omega)).mono ?_
            rintro e w7 ⟨rfl, hb7⟩
            have hH7 := (hH5.below hb6).below hb7
            have hQ7 := (hQ5.below hb6).below hb7
            have h7 := below_through (below_through h5 hb6) hb7
            clear hb6 hb7 hH5 hQ5 h5
            go_wp2_with fail
            refine (hlen_any w7 _ p _ hH7).mono ?_
            rintro e w' ⟨rfl, rfl⟩
            go_wp2_with fail
            refine (hsumOf_any w7 _ q _ hQ7 (by simp; omega)).mono ?_
            rintro e w8 ⟨rfl, hb8⟩
            go_wp2_with fail
            refine (sum_of (x ++ o) w8 (by rw [ByteArray.size_append]; omega)).mono ?_
            rintro e w9 ⟨rfl, hb9⟩
            rw [cat_list]
            have hH9 := (hH7.below hb8).below hb9
            have h9 := below_through (below_through h7 hb8) hb9
            clear hb8 hb9 hH7 hQ7 h7
            go_wp2_with fail
            refine (hsumOf_any w9 _ p _ hH9 (by simp; omega)).mono ?_
            rintro e w10 ⟨rfl, hb10⟩
            have hl : (bstr (shaD x.data.toList)).size = 32 := by rw [bstr_size, shaD_length]
            go_wp2
            go_ret
            exact ⟨rfl, below_through h9 hb10⟩
          · have hO : (o.extract 0 1000).size ≤ 1000 := by rw [ByteArray.size_extract]; omega
            go_wp2_with fail
            refine (hcopy_any wr _ p _ hHr).mono ?_
            rintro e w4 ⟨q, rfl, hQ, hb4⟩
            go_wp2_with fail
            refine (hadd_any w4 _ q _ (o.extract 0 1000) hQ (by simp; omega)).mono ?_
            rintro e w5 ⟨rfl, hQ5, hb5⟩
            have hb45 := hb4.trans hb5
            have hH5 := hHr.below hb45
            have h5 : Below w.heap.size w w5 := below_through hbel hb45
            clear hb4 hb5 hQ hHr hb45
            go_wp2_with fail
            refine (hsumOf_any w5 _ p _ hH5 (by simp; omega)).mono ?_
            rintro e w6 ⟨rfl, hb6⟩
            go_wp2_with fail
            refine (sum_of x w6 (by omega)).mono ?_
            rintro e w7 ⟨rfl, hb7⟩
            have hH7 := (hH5.below hb6).below hb7
            have hQ7 := (hQ5.below hb6).below hb7
            have h7 := below_through (below_through h5 hb6) hb7
            clear hb6 hb7 hH5 hQ5 h5
            go_wp2_with fail
            refine (hlen_any w7 _ p _ hH7).mono ?_
            rintro e w' ⟨rfl, rfl⟩
            go_wp2_with fail
            refine (hsumOf_any w7 _ q _ hQ7 (by simp; omega)).mono ?_
            rintro e w8 ⟨rfl, hb8⟩
            go_wp2_with fail
            refine (sum_of (x ++ (o.extract 0 1000)) w8 (by rw [ByteArray.size_append]; omega)).mono ?_
            rintro e w9 ⟨rfl, hb9⟩
            rw [cat_list]
            have hH9 := (hH7.below hb8).below hb9
            have h9 := below_through (below_through h7 hb8) hb9
            clear hb8 hb9 hH7 hQ7 h7
            go_wp2_with fail
            refine (hsumOf_any w9 _ p _ hH9 (by simp; omega)).mono ?_
            rintro e w10 ⟨rfl, hb10⟩
            have hl : (bstr (shaD x.data.toList)).size = 32 := by rw [bstr_size, shaD_length]
            go_wp2
            go_ret
            exact ⟨rfl, below_through h9 hb10⟩
      · by_cases h1000 : (o.size : Int) ≤ 1000
        · go_wp2_with fail
          refine (hcopy_any wr _ p _ hHr).mono ?_
          rintro e w4 ⟨q, rfl, hQ, hb4⟩
          go_wp2_with fail
          refine (hadd_any w4 _ q _ o hQ (by simp; omega)).mono ?_
          rintro e w5 ⟨rfl, hQ5, hb5⟩
          have hb45 := hb4.trans hb5
          have hH5 := hHr.below hb45
          have h5 : Below w.heap.size w w5 := below_through hbel hb45
          clear hb4 hb5 hQ hHr hb45
          go_wp2_with fail
          refine (hsumOf_any w5 _ p _ hH5 (by simp; omega)).mono ?_
          rintro e w6 ⟨rfl, hb6⟩
          go_wp2_with fail
          refine (sum_of x w6 (by omega)).mono ?_
          rintro e w7 ⟨rfl, hb7⟩
          have hH7 := (hH5.below hb6).below hb7
          have hQ7 := (hQ5.below hb6).below hb7
          have h7 := below_through (below_through h5 hb6) hb7
          clear hb6 hb7 hH5 hQ5 h5
          go_wp2_with fail
          refine (hlen_any w7 _ p _ hH7).mono ?_
          rintro e w' ⟨rfl, rfl⟩
          go_wp2_with fail
          refine (hsumOf_any w7 _ q _ hQ7 (by simp; omega)).mono ?_
          rintro e w8 ⟨rfl, hb8⟩
          go_wp2_with fail
          refine (sum_of (x ++ o) w8 (by rw [ByteArray.size_append]; omega)).mono ?_
          rintro e w9 ⟨rfl, hb9⟩
          rw [cat_list]
          have hH9 := (hH7.below hb8).below hb9
          have h9 := below_through (below_through h7 hb8) hb9
          clear hb8 hb9 hH7 hQ7 h7
          go_wp2_with fail
          refine (hsumOf_any w9 _ p _ hH9 (by simp; omega)).mono ?_
          rintro e w10 ⟨rfl, hb10⟩
          have hl : (bstr (shaD x.data.toList)).size = 32 := by rw [bstr_size, shaD_length]
          go_wp2
          go_ret
          exact ⟨rfl, below_through h9 hb10⟩
        · have hO : (o.extract 0 1000).size ≤ 1000 := by rw [ByteArray.size_extract]; omega
          go_wp2_with fail
          refine (hcopy_any wr _ p _ hHr).mono ?_
          rintro e w4 ⟨q, rfl, hQ, hb4⟩
          go_wp2_with fail
          refine (hadd_any w4 _ q _ (o.extract 0 1000) hQ (by simp; omega)).mono ?_
          rintro e w5 ⟨rfl, hQ5, hb5⟩
          have hb45 := hb4.trans hb5
          have hH5 := hHr.below hb45
          have h5 : Below w.heap.size w w5 := below_through hbel hb45
          clear hb4 hb5 hQ hHr hb45
          go_wp2_with fail
          refine (hsumOf_any w5 _ p _ hH5 (by simp; omega)).mono ?_
          rintro e w6 ⟨rfl, hb6⟩
          go_wp2_with fail
          refine (sum_of x w6 (by omega)).mono ?_
          rintro e w7 ⟨rfl, hb7⟩
          have hH7 := (hH5.below hb6).below hb7
          have hQ7 := (hQ5.below hb6).below hb7
          have h7 := below_through (below_through h5 hb6) hb7
          clear hb6 hb7 hH5 hQ5 h5
          go_wp2_with fail
          refine (hlen_any w7 _ p _ hH7).mono ?_
          rintro e w' ⟨rfl, rfl⟩
          go_wp2_with fail
          refine (hsumOf_any w7 _ q _ hQ7 (by simp; omega)).mono ?_
          rintro e w8 ⟨rfl, hb8⟩
          go_wp2_with fail
          refine (sum_of (x ++ (o.extract 0 1000)) w8 (by rw [ByteArray.size_append]; omega)).mono ?_
          rintro e w9 ⟨rfl, hb9⟩
          rw [cat_list]
          have hH9 := (hH7.below hb8).below hb9
          have h9 := below_through (below_through h7 hb8) hb9
          clear hb8 hb9 hH7 hQ7 h7
          go_wp2_with fail
          refine (hsumOf_any w9 _ p _ hH9 (by simp; omega)).mono ?_
          rintro e w10 ⟨rfl, hb10⟩
          have hl : (bstr (shaD x.data.toList)).size = 32 := by rw [bstr_size, shaD_length]
          go_wp2
          go_ret
          exact ⟨rfl, below_through h9 hb10⟩
    · by_cases h1000 : (o.size : Int) ≤ 1000
      · go_wp2_with fail
        refine (hcopy_any wr _ p _ hHr).mono ?_
        rintro e w4 ⟨q, rfl, hQ, hb4⟩
        go_wp2_with fail
        refine (hadd_any w4 _ q _ o hQ (by simp; omega)).mono ?_
        rintro e w5 ⟨rfl, hQ5, hb5⟩
        have hb45 := hb4.trans hb5
        have hH5 := hHr.below hb45
        have h5 : Below w.heap.size w w5 := below_through hbel hb45
        clear hb4 hb5 hQ hHr hb45
        go_wp2_with fail
        refine (hsumOf_any w5 _ p _ hH5 (by simp; omega)).mono ?_
        rintro e w6 ⟨rfl, hb6⟩
        go_wp2_with fail
        refine (sum_of x w6 (by omega)).mono ?_
        rintro e w7 ⟨rfl, hb7⟩
        have hH7 := (hH5.below hb6).below hb7
        have hQ7 := (hQ5.below hb6).below hb7
        have h7 := below_through (below_through h5 hb6) hb7
        clear hb6 hb7 hH5 hQ5 h5
        go_wp2_with fail
        refine (hlen_any w7 _ p _ hH7).mono ?_
        rintro e w' ⟨rfl, rfl⟩
        go_wp2_with fail
        refine (hsumOf_any w7 _ q _ hQ7 (by simp; omega)).mono ?_
        rintro e w8 ⟨rfl, hb8⟩
        go_wp2_with fail
        refine (sum_of (x ++ o) w8 (by rw [ByteArray.size_append]; omega)).mono ?_
        rintro e w9 ⟨rfl, hb9⟩
        rw [cat_list]
        have hH9 := (hH7.below hb8).below hb9
        have h9 := below_through (below_through h7 hb8) hb9
        clear hb8 hb9 hH7 hQ7 h7
        go_wp2_with fail
        refine (hsumOf_any w9 _ p _ hH9 (by simp; omega)).mono ?_
        rintro e w10 ⟨rfl, hb10⟩
        have hl : (bstr (shaD x.data.toList)).size = 32 := by rw [bstr_size, shaD_length]
        go_wp2
        go_ret
        exact ⟨rfl, below_through h9 hb10⟩
      · have hO : (o.extract 0 1000).size ≤ 1000 := by rw [ByteArray.size_extract]; omega
        go_wp2_with fail
        refine (hcopy_any wr _ p _ hHr).mono ?_
        rintro e w4 ⟨q, rfl, hQ, hb4⟩
        go_wp2_with fail
        refine (hadd_any w4 _ q _ (o.extract 0 1000) hQ (by simp; omega)).mono ?_
        rintro e w5 ⟨rfl, hQ5, hb5⟩
        have hb45 := hb4.trans hb5
        have hH5 := hHr.below hb45
        have h5 : Below w.heap.size w w5 := below_through hbel hb45
        clear hb4 hb5 hQ hHr hb45
        go_wp2_with fail
        refine (hsumOf_any w5 _ p _ hH5 (by simp; omega)).mono ?_
        rintro e w6 ⟨rfl, hb6⟩
        go_wp2_with fail
        refine (sum_of x w6 (by omega)).mono ?_
        rintro e w7 ⟨rfl, hb7⟩
        have hH7 := (hH5.below hb6).below hb7
        have hQ7 := (hQ5.below hb6).below hb7
        have h7 := below_through (below_through h5 hb6) hb7
        clear hb6 hb7 hH5 hQ5 h5
        go_wp2_with fail
        refine (hlen_any w7 _ p _ hH7).mono ?_
        rintro e w' ⟨rfl, rfl⟩
        go_wp2_with fail
        refine (hsumOf_any w7 _ q _ hQ7 (by simp; omega)).mono ?_
        rintro e w8 ⟨rfl, hb8⟩
        go_wp2_with fail
        refine (sum_of (x ++ (o.extract 0 1000)) w8 (by rw [ByteArray.size_append]; omega)).mono ?_
        rintro e w9 ⟨rfl, hb9⟩
        rw [cat_list]
        have hH9 := (hH7.below hb8).below hb9
        have h9 := below_through (below_through h7 hb8) hb9
        clear hb8 hb9 hH7 hQ7 h7
        go_wp2_with fail
        refine (hsumOf_any w9 _ p _ hH9 (by simp; omega)).mono ?_
        rintro e w10 ⟨rfl, hb10⟩
        have hl : (bstr (shaD x.data.toList)).size = 32 := by rw [bstr_size, shaD_length]
        go_wp2
        go_ret
        exact ⟨rfl, below_through h9 hb10⟩
end Go.Proofs.Ytnddocchfkhlbaa
