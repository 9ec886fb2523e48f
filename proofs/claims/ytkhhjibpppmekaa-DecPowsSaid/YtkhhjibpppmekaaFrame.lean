/- How what came in as an argument is opened: numbers, bytes. -/
import Derived.Test.YtkhhjibpppmekaaRows
import Derived.Test.YtkhhjibpppmekaaNumA
import Derived.ProofKit
import Derived.OpenShut
import Derived.ShutString
import Derived.ChangeOld
import Derived.Lib.SmallJoins
namespace Go.Proofs.Ytkhhjibpppmekaa
open Go.ChangeShapes Go.WideShapes Go.ChangeAt Go.RowKit Go.Joins
theorem cellsDec : Try.prog.cellsOf 24 = 3 := by kernel_rfl
theorem wd_of {n : Int} (h : (Lit.int .u64 n).wf = true) : Wd n := by
  simp [Lit.wf, IntKind.min, IntKind.max, IntKind.signed, IntKind.bits] at h
  exact ⟨h.1, by omega⟩
theorem byte_range {n : Int} (h : (Lit.int .u8 n).wf = true) : 0 ≤ n ∧ n < 256 := by
  simp [Lit.wf, IntKind.min, IntKind.max, IntKind.signed, IntKind.bits] at h
  exact ⟨h.1, by omega⟩
theorem int64_range {n : Int} (h : (Lit.int .i64 n).wf = true) : -9223372036854775808 ≤ n ∧ n < 9223372036854775808 := by
  simp [Lit.wf, IntKind.min, IntKind.max, IntKind.signed, IntKind.bits] at h
  exact ⟨h.1, by omega⟩
set_option maxRecDepth 100000 in
theorem dec_form {H : Type} {enc : TypeId × Value → H} {w : World} {base : Nat} {spare : Nat → Bool} {held : Bool} {r : Reach} {b0 : Nat} {v : Value} {d : DataW H} {p : List MemPlace}
    (hv : Value.okWide Try.prog w r b0 24 v) (h : DataW.Trod enc Try.prog w base spare held 24 v d p) :
    ∃ (n : Bool) (hi lo : Int), v = .agg #[.bool n, .int .u64 hi, .int .u64 lo] ∧ Wd hi ∧ Wd lo := by
  obtain ⟨v0, v1, v2, y0, y1, y2, m, rfl, _, _, h0, h1, h2⟩ := open_agg3 Try.underlying24 (by kernel_rfl) cellsDec hv h
  obtain ⟨a, e0, _⟩ := DataW.trod_bool Try.underlying4 h0
  obtain ⟨b, e1, _, wb⟩ := DataW.trod_int Try.underlying22 h1
  obtain ⟨c, e2, _, wc⟩ := DataW.trod_int Try.underlying22 h2
  simp at e0 e1 e2
  subst e0 e1 e2
  exact ⟨a, b, c, rfl, wd_of wb, wd_of wc⟩
set_option maxRecDepth 100000 in
theorem bytes_form {H : Type} {enc : TypeId × Value → H} {w : World} {base : Nat} {spare : Nat → Bool} {held : Bool} {r : Reach} {b0 : Nat} {v : Value} {d : DataW H} {p : List MemPlace}
    (hv : Value.okWide Try.prog w r b0 62 v) (h : DataW.Trod enc Try.prog w base spare held 62 v d p) :
    ∃ (A : Option Addr) (c : Nat) (bs : List Nat), v = .slice A bs.length c ∧ RB w w.heap.size A bs ∧ bs.length ≤ c ∧ (A = none → bs = [] ∧ c = 0) := by
  obtain ⟨a, len, cap, rfl⟩ := okWide_slice Try.underlying62 hv
  obtain ⟨fuel, hf⟩ := h
  rcases open_ints Try.underlying62 Try.underlying5 (by kernel_rfl) hf with ⟨hcs, _⟩ | ⟨x, l, c, zs, hcs, _, hl, hm, hz, _, hcell, hwz⟩
  · simp [Value.cells] at hcs
    obtain ⟨rfl, rfl, rfl⟩ := hcs
    exact ⟨none, 0, [], rfl, RB.nil, by simp, fun _ => ⟨rfl, rfl⟩⟩
  · simp [Value.cells] at hcs
    obtain ⟨rfl, rfl, rfl⟩ := hcs
    have hzl : len ≤ zs.length := by rw [hz]; split <;> omega
    have hb : ∀ n ∈ zs, 0 ≤ n ∧ n < 256 := fun n hn => byte_range (hwz n hn)
    have hlen : ((zs.take len).map Int.toNat).length = len := by rw [List.length_map, List.length_take]; omega
    refine ⟨some x, cap, (zs.take len).map Int.toNat, by rw [hlen], ⟨?_, ?_⟩, by rw [hlen]; exact hl, fun e => by cases e⟩
    · intro y hy
      obtain ⟨n, hn, rfl⟩ := List.mem_map.1 hy
      have := hb n (List.mem_of_mem_take hn)
      omega
    · intro h0
      rw [hlen] at h0
      refine ⟨x, rfl, ?_, ?_⟩
      · have := World.block_lt_of_cell? w (x.add 0) (hcell 0 (by omega))
        rw [block_of_add] at this; exact this
      · intro j hj
        rw [hlen] at hj
        rw [hcell j (by omega)]
        have hjz : j < zs.length := by omega
        have := hb zs[j] (List.getElem_mem hjz)
        rw [List.getElem_map, List.getElem_take, List.getD_eq_getElem?_getD, List.getElem?_eq_getElem hjz]
        simp only [Option.getD_some]
        rw [Int.toNat_of_nonneg this.1]
end Go.Proofs.Ytkhhjibpppmekaa
