/- numeral.digits. -/
import Derived.Test.YtdmifldjeiabdaaNumA
namespace Go.Proofs.Ytdmifldjeiabdaa
open Go.RowKit
set_option maxRecDepth 100000 in
set_option maxHeartbeats 400000 in
theorem digits_any (A : Option Addr) (c : Nat) (bs : List Nat) (w : World) (hr : RB w w.heap.size A bs) (hc : bs.length ≤ c) (hm : bs.length ≤ 140737488351232) :
    Calls Try.prog 78 #[.slice A bs.length c] w fun e w' => e = .returned (.slice A (span digB bs) c) ∧ w = w' := by
  have hH := Lib.hid hr
  clear hr
  go_enter Try.func78, Try.ntmps78
  go_wp2_with fail
  go_loop [3] (fun n => ∃ k : Nat, k ≤ bs.length ∧ n = .int .i64 k ∧ Hid (∀ j (hj : j < bs.length), j < k → digB bs[j] = true)) (fun n => bs.length - (intOf n).toNat)
  case atStart => exact ⟨0, Nat.zero_le _, rfl, Lib.hid (fun _ _ h => absurd h (by omega))⟩
  case round =>
    obtain ⟨k, hk, rfl, hall⟩ := hrel
    by_cases hlt : k < bs.length
    · obtain ⟨ad, rfl, hb, hcell⟩ := hH.out.2 (by omega)
      have hx := hH.out.1 bs[k] (List.getElem_mem _)
      have hcl := hcell k hlt
      obtain ⟨x, hxe⟩ : ∃ x, x = bs[k] := ⟨_, rfl⟩
      rw [← hxe] at hx hcl
      have HX := Lib.hid hxe; clear hxe hcell hb
      by_cases h1 : 48 ≤ x
      · by_cases h2 : x ≤ 57
        · go_wp2
          go_round
          case rel => exact ⟨k + 1, by omega, by go_num, Lib.hid (fun j hj hjk => by
            by_cases e : j = k
            · subst e; rw [← HX.out]; simp [digB, h1, h2]
            · exact hall.out j hj (by omega))⟩
          case measure => simp [intOf]; omega
        · have he : span digB bs = k := span_eq _ _ _ hk (fun j hj hjk => hall.out j hj hjk) (fun hj => by rw [← HX.out]; simp [digB]; omega)
          have HE := Lib.hid he; clear he
          go_wp2
          go_ret
          exact ⟨by rw [HE.out]; rfl, rfl⟩
      · have he : span digB bs = k := span_eq _ _ _ hk (fun j hj hjk => hall.out j hj hjk) (fun hj => by rw [← HX.out]; simp [digB]; omega)
        have HE := Lib.hid he; clear he
        go_wp2
        go_ret
        exact ⟨by rw [HE.out]; rfl, rfl⟩
    · have he : span digB bs = k := span_eq _ _ _ hk (fun j hj hjk => hall.out j hj hjk) (fun hj => by omega)
      have HE := Lib.hid he; clear he
      go_wp2
      go_ret
      exact ⟨by rw [HE.out]; rfl, rfl⟩
end Go.Proofs.Ytdmifldjeiabdaa
