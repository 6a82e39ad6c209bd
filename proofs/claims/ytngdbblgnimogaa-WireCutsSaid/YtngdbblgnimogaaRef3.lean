import Derived.Test.YtngdbblgnimogaaRef2
namespace Go.Proofs.Ytngdbblgnimogaa
open Go.RowKit

theorem hsc_eq (l : List Hsh) : hsc l = bcs (hb l) := by
  induction l with
  | nil => rfl
  | cons x l ih => unfold hsc hb bcs at *; simp only [List.flatMap_cons, List.map_append, ← ih]; rfl

set_option maxHeartbeats 800000 in
theorem rhashes_any (a : Option Addr) (c : Nat) (l : List Hsh) (w : World) (hr : Rd w a l.length c 32 (hsc l)) (hll : l.length ≤ 16777216) :
    Calls Try.prog 37 #[.slice a l.length c] w fun e w' => NewB w e w' (be 4 l.length ++ hb l) := by
  obtain ⟨i0, T⟩ := Try.tbytes
  have HT := Lib.hid T
  have HR := Lib.hid hr
  have hbl := hb_length l
  have HBL := Lib.hid hbl
  clear T hr hbl
  go_enter Try.func37, Try.ntmps37
  go_wp2_with fail
  refine (rcount_any l.length _).mono ?_
  rintro e w1 ⟨a1, c1, rfl, hown, hF, k1⟩
  rw [be_length] at hown
  rw [be_length]
  have HF := Lib.hid hF
  have HO := Lib.hid hown
  have K1 := Lib.hid k1
  clear hown hF k1
  go_wp2
  go_loopw [3, 4, 5] (fun v i _ wr => ∃ (k : Nat) (a2 : Option Addr) (c2 : Nat), k ≤ l.length ∧ i = .int .i64 k ∧ v = .slice a2 (4 + 32 * k) c2 ∧ wr.ownsRow 0 5 1 (.slice a2 (4 + 32 * k) c2) (4 + 32 * k) (bcs (be 4 l.length ++ (hb l).take (32 * k))) ∧ (∀ x ∈ aF a2, w.heap.size ≤ x) ∧ Kp [] w wr) (fun _ i _ _ => l.length - (intOf i).toNat)
  case atStart => exact ⟨0, a1, c1, by omega, rfl, rfl, by simpa using HO.out, HF.out, K1.out⟩
  case round =>
    obtain ⟨k, a2, c2, hk, rfl, rfl, hown, hF, hkp⟩ := hrel
    have HO2 := Lib.hid hown
    have HF2 := Lib.hid hF
    have HK := Lib.hid hkp
    clear hown hF hkp
    by_cases hlt : k < l.length
    · go_wp2
      go_loopw [3, 5] (fun v j wr => ∃ (q : Nat) (a2 : Option Addr) (c2 : Nat), q ≤ 32 ∧ j = .int .i64 q ∧ v = .slice a2 (4 + (32 * k + q)) c2 ∧ wr.ownsRow 0 5 1 (.slice a2 (4 + (32 * k + q)) c2) (4 + (32 * k + q)) (bcs (be 4 l.length ++ (hb l).take (32 * k + q))) ∧ (∀ x ∈ aF a2, w.heap.size ≤ x) ∧ Kp [] w wr) (fun _ j _ => 32 - (intOf j).toNat)
      case atStart => exact ⟨0, a2, c2, by omega, rfl, rfl, HO2.out, HF2.out, HK.out⟩
      case round =>
        obtain ⟨q, a3, c3, hq, rfl, rfl, hown3, hF3, hk3⟩ := hrel
        have HO3 := Lib.hid hown3
        have HF3 := Lib.hid hF3
        have HK3 := Lib.hid hk3
        clear hown3 hF3
        by_cases hlq : q < 32
        · have hix : 32 * k + q < (hb l).length := by rw [HBL.out]; omega
          have hrd := HR.out.below hk3
          obtain ⟨b, off, rfl, _, hcs⟩ := hrd.spot (by rw [hsc_length]; omega)
          rw [hsc_eq] at hcs
          obtain ⟨y, hy⟩ : ∃ y, y = (hb l)[32 * k + q] := ⟨_, rfl⟩
          have hc1 := hcs (k * 32 + q) (bcell y) (by rw [show k * 32 + q = 32 * k + q by omega]; simp [bcs, hix, hy])
          have hc2 : wr.cell? ⟨b, off + k * 32 + q, none⟩ = some (bcell y) := by rw [Nat.add_assoc]; exact hc1
          unfold bcell at hc2
          have HY := Lib.hid hy
          clear hcs hrd hc1 hk3 hy
          go_wp2_with (at_builtin; refine wpList_append_rd HT.out rfl rfl rfl (HO3.out.alloc _) rfl (rd_alloc (m := 1) rfl (by simp [maxLen])) (by simp [Value.oneCell']) (by omega) (by simp [maxLen]; omega) ?_; intro a4 c4 w4 hown hgrow hg; have HO4 := Lib.hid hown; have HW := Lib.hid hgrow; have HG := Lib.hid hg; clear hown hgrow hg)
          go_roundw
          case rel =>
            refine ⟨q + 1, a4, c4, by omega, by go_num, rfl, ?_, fun x hx => ?_, ?_⟩
            · have h := HO4.out
              have e : be 4 l.length ++ (hb l).take (32 * k + (q + 1)) = (be 4 l.length ++ (hb l).take (32 * k + q)) ++ [y] := by
                rw [show 32 * k + (q + 1) = (32 * k + q) + 1 by omega, List.take_succ_eq_append_getElem hix, HY.out, List.append_assoc]
              rw [e, bcs_app]
              exact h
            · rcases HG.out x hx with h | h
              · exact HF3.out x h
              · rw [h]; have := HK3.out.size; simp; omega
            · refine ((HK3.out).alloc _).grown HW.out fun z hz => .inr ?_
              cases a3 with
              | none => simp [Value.ownBlock] at hz
              | some b => simp [Value.ownBlock] at hz; exact HF3.out z (by simp [aF, hz])
          case measure => simp [intOf]; omega
        · obtain rfl : q = 32 := by omega
          go_wp2
          go_roundw
          case rel => exact ⟨k + 1, a3, c3, by omega, by go_num, rfl, HO3.out, HF3.out, HK3.out⟩
          case measure => simp [intOf]; omega
    · obtain rfl : k = l.length := by omega
      go_wp2
      go_ret
      have e : (hb l).take (32 * l.length) = hb l := List.take_of_length_le (by rw [HBL.out]; omega)
      have hO := HO2.out
      rw [e] at hO
      have e2 : 4 + 32 * l.length = (be 4 l.length ++ hb l).length := by rw [List.length_append, be_length, HBL.out]; omega
      exact ⟨a2, c2, by rw [← e2]; rfl, by rw [← e2]; exact hO, HF2.out, HK.out⟩
end Go.Proofs.Ytngdbblgnimogaa
