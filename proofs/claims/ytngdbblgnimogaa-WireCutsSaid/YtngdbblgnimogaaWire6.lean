import Derived.Test.YtngdbblgnimogaaWire5
namespace Go.Proofs.Ytngdbblgnimogaa
open Go.RowKit

theorem Try.thashes : ∃ i, SlT Try.prog 34 39 i (hv zeroH) 32 32 := SlT.mk' Try.underlying34 (by kernel_rfl) (hvA_size _) (by decide)

theorem rHs_succ (n : Nat) (s : St) : rHs (n + 1) s = ((rHash s).1 :: (rHs n (rHash s).2).1, (rHs n (rHash s).2).2) := rfl

set_option maxHeartbeats 400000 in
theorem hashes_any (p : Nat) (most : Int) (s : St) (G : List Nat) (w : World) (h : InAt w p s G) (hp : p ∉ G) (hGlt : ∀ x ∈ G, x < w.heap.size) :
    Calls Try.prog 16 #[.pointer (some ⟨p, 0, none⟩), .int .i64 most] w fun e w' => ∃ a c, e = .returned (.slice a (rHashes most s).1.length c) ∧ w'.ownsRow 0 39 32 (.slice a (rHashes most s).1.length c) (rHashes most s).1.length (hsc (rHashes most s).1) ∧
      (∀ x ∈ aF a, w.heap.size ≤ x) ∧ InAt w' p (rHashes most s).2 G ∧ Kp [p] w w' := by
  obtain ⟨i0, T⟩ := Try.thashes
  have H := Lib.hid h
  have HG := Lib.hid hGlt
  have HP := Lib.hid hp
  clear h hGlt hp
  cases hm : rMany most 32 s with
  | mk n r =>
  have hnb : n < 4294967296 := by
    cases r with
    | none => rw [rMany_zero hm]; omega
    | some r => exact (rMany_le hm).2
  have hr : rHashes most s = rHs n r := by simp [rHashes, hm]
  rw [hr]
  have HM := Lib.hid hm
  clear hr hm
  go_enter Try.func16, Try.ntmps16
  go_wp2_with fail
  refine (many_any p most 32 s G _ H.out (by decide) (by decide)).mono ?_
  rw [HM.out]
  rintro e w1 ⟨rfl, h1, k1⟩
  have H1 := Lib.hid h1
  have K1 := Lib.hid k1
  clear h1 k1
  go_wp2
  go_loopw [5, 9] (fun v i wr => ∃ (k : Nat) (acc : List Hsh) (st : St) (a : Option Addr) (c : Nat), k ≤ n ∧ i = .int .i64 k ∧ v = .slice a acc.length c ∧ acc.length = k ∧ wr.ownsRow 0 39 32 (.slice a acc.length c) acc.length (hsc acc) ∧ (∀ x ∈ aF a, w.heap.size ≤ x) ∧ InAt wr p st G ∧ Kp [p] w wr ∧
      Hid (rHs n r = (acc ++ (rHs (n - k) st).1, (rHs (n - k) st).2))) (fun _ i _ => n - (intOf i).toNat)
  case atStart => exact ⟨0, [], r, none, 0, by omega, rfl, rfl, rfl, World.ownsRow_nil _ _ _ _, by simp [aF], H1.out, K1.out, by simp [Hid]⟩
  case round =>
    obtain ⟨k, acc, st, a, c, hk, rfl, rfl, hlen, hown, hF, hin, hkp, hspec⟩ := hrel
    have HO := Lib.hid hown
    have HF := Lib.hid hF
    have HI := Lib.hid hin
    have HK := Lib.hid hkp
    have HL := Lib.hid hlen
    clear hown hF hin hkp hlen
    by_cases hlt : k < n
    · go_wp2_with fail
      refine (hash_any p st G _ HI.out (by intro x hx; have := HG.out x hx; have := HK.out.size; omega)).mono ?_
      rintro e w2 ⟨rfl, h2, k2⟩
      have H2 := Lib.hid h2
      have K2 := Lib.hid k2
      clear h2 k2
      obtain ⟨hh, hhd⟩ : ∃ hh, hh = (rHash st).1 := ⟨_, rfl⟩
      rw [← hhd]
      have HH := Lib.hid hhd
      clear hhd
      have hpF : ∀ x ∈ aF a, x ∉ [p] := fun x hx hh => by
        have := HF.out x hx
        have := H.out.lt
        simp at hh; omega
      have HO2 := Lib.hid (own_kept HO.out K2.out (by rw [rowF_slice]; exact hpF))
      clear hpF
      go_wp2_with (first | (refine wpList_lit T rfl rfl [hv hh] rfl (by simp [Act.eval]) (hvs_size [hh]) (by simp) ?_) | (at_builtin; refine wpList_append_rd T rfl rfl rfl (HO2.out.alloc _) rfl (rd_alloc (m := 1) (by rw [flatV_one]; simp [hcs_length]) (by simp [maxLen])) (by rw [flatV_one]; exact hcs_one hh) (by have := HL.out; omega) (by have := HL.out; simp [maxLen]; omega) ?_))
      intro a' c' w3 hown hgrow hF3
      rw [flatV_one, ← hsc_snoc] at hown
      have HO3 := Lib.hid hown
      have HG3 := Lib.hid hgrow
      have HF3 := Lib.hid hF3
      clear hown hgrow hF3
      go_wp2
      go_roundw
      case rel =>
        have k3 : Kp (aF a) w2 w3 := ((Kp.refl (aF a) w2).alloc _).grown HG3.out fun k hk => by left; cases a <;> simp_all [Value.ownBlock, aF]
        have hpw := H.out.lt
        have hne : p ∉ aF a := fun hh => by have := HF.out p hh; omega
        have hs2 := HK.out.size
        have hs3 := K2.out.size
        refine ⟨k + 1, acc ++ [hh], (rHash st).2, a', c', by omega, by go_num, by simp, by simp; exact HL.out, by simpa using HO3.out, ?_, H2.out.kept k3 hne (fun x hx hx2 => by have := HF.out x hx2; have := HG.out x hx; omega), ?_, ?_⟩
        · intro x hx
          rcases HF3.out x hx with h | h
          · exact HF.out x h
          · omega
        · exact (HK.out.trans K2.out (by simp)).trans k3 (fun x hx hlt => by have := HF.out x hx; omega)
        · show _ = _
          rw [hspec.out, show n - k = (n - (k + 1)) + 1 by omega, rHs_succ, HH.out]
          simp
      case measure => simp [intOf]; omega
    · obtain rfl : k = n := by omega
      go_wp2
      go_ret
      have hsp := hspec.out
      simp only [Nat.sub_self, rHs, List.append_nil] at hsp
      rw [hsp]
      exact ⟨a, c, rfl, HO.out, HF.out, HI.out, HK.out⟩

end Go.Proofs.Ytngdbblgnimogaa
