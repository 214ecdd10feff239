/-
  strconv.FormatUint and Itoa, strings.ContainsAny, Count, Index at this seat: what the abstract machine says of them is so.
-/
import Derived.Test.YtkoccbggjfbgaaaGreatDoorK21
import Derived.Test.YtkoccbggjfbgaaaGreatDoorK37
import Derived.Test.YtkoccbggjfbgaaaGreatDoorK24
import Derived.Shelf.Strconv.Itoa3
import Derived.Lib.AppendIntMem
import Derived.Lib.ItoaMem
set_option linter.all false
set_option linter.unusedVariables false
open Go.Eng Go.RowKit Go.Shelf Go.Lib Go.Sort
namespace Go.Proofs.YtkoccbggjfbgaaaGreatDoor

theorem tabIs_of {w : World} (h : TabAt 3 w) : Lib.TabIs Tryz.prog w "internal/strconv.uint64pow10" .u64 Lib.pow10Tab := by
  obtain ⟨cur, t, fz, h1, h2⟩ := h
  have hg : Tryz.prog.globalNamed "internal/strconv.uint64pow10" = some 3 := by kernel_rfl
  have hc : cur = (Lib.pow10Tab.map fun z => Value.int .u64 z).toArray := by rw [← h2]
  unfold Lib.TabIs World.var?
  simp [hg, h1, hc]

set_option maxHeartbeats 6400000 in
set_option maxRecDepth 100000 in
theorem fmt_uint (u : Nat) (hu64 : u < 18446744073709551616) (w : World) (htab : 100 ≤ u → Lib.TabIs Tryz.prog w "internal/strconv.uint64pow10" .u64 Lib.pow10Tab) :
    Calls Tryz.prog 68 #[.int .u64 u, .int .i64 10] w fun e w' => e = .returned (.string ⟨(Lib.decDigits u).toArray⟩) ∧ Below w.heap.size w w' := by
  by_cases hs : u < 100
  · have hsm : ∀ W, Calls Tryz.prog 97 #[.int .i64 u] W fun e w' => e = .returned (.string ⟨(Lib.decDigits u).toArray⟩) ∧ w' = W := fun W => Any.internal_strconv_small (ρ := Tryz.lays171_ren) { Tryz.lays171 with } u hs W
    go_enter Tryz.func68, Tryz.ntmps68
    go_wp2_with (go_at_call 97; refine (hsm _).mono ?_; rintro e w' ⟨rfl, rfl⟩)
    go_ret
    exact ⟨rfl, Below.refl _ _⟩
  · have hu : 100 ≤ u := by omega
    have htab := htab hu
    have hu1 : 1 ≤ u := by omega
    have hnd20 : Lib.nDigits u ≤ 20 := by have := Lib.numDigits_eq u hu1 hu64; split at this <;> omega
    have hal : Tryz.prog.arrayLen 149 = 24 := by kernel_rfl
    have hsl : ∀ W, (Instr.sliceAt 149 (.pointer (some ⟨w.heap.size, 0, none⟩)) none (some (.int .i64 (Lib.nDigits u : Int))) none).run Tryz.prog W = .ok (.slice (some ⟨w.heap.size, 0, none⟩) (Lib.nDigits u) 24) W := fun W => by
      rw [run_sliceAt_array_h W 149 ⟨w.heap.size, 0, none⟩ (by kernel_rfl) .i64 (Lib.nDigits u : Int) (by omega) (by rw [hal]; omega)]
      rw [hal]
      go_simp
    have hH0 := Lib.holds_zero0 w 149 (Lib.nDigits u) (by omega)
    have hfmt := Any.internal_strconv_formatBase10 (ρ := Tryz.lays171_ren) { Tryz.lays171 with } w.heap.size 0 24 u (Array.replicate (Lib.nDigits u) 0) (w.alloc (.cells Lib.zeros24 149)) hH0 (by rw [Array.size_replicate]; exact Lib.lt_pow_nDigits u) hu64 (by rw [Array.size_replicate]; omega)
    rw [Array.size_replicate] at hfmt
    have hfmt2 : Calls Tryz.prog 99 #[.slice (some ⟨w.heap.size, 0, none⟩) (Lib.nDigits u) 24, .int .u64 u] (w.alloc (.cells Lib.zeros24 149)) _ := hfmt
    have hdg : ∀ W, Lib.TabIs Tryz.prog W "internal/strconv.uint64pow10" .u64 Lib.pow10Tab → Calls Tryz.prog 98 #[.int .u64 u] W fun e w' => e = .returned (.int .i64 (Lib.nDigits u)) ∧ w' = W := fun W hW => Any.internal_strconv_numDigits (ρ := Tryz.lays171_ren) { Tryz.lays171 with } u hu1 hu64 W hW
    have HH0 := Lib.hid hH0
    have iu : (100 : Int) ≤ (u : Int) := by omega
    clear hH0 hal hfmt
    go_enter Tryz.func68, Tryz.ntmps68
    go_wp2_with (go_at_call 98; refine (hdg _ (Lib.tabIs_alloc htab _)).mono ?_; rintro e w' ⟨rfl, rfl⟩)
    go_at_call 99
    refine hfmt2.mono ?_
    rintro e w' ⟨rfl, k, v', dk, rfl, hF⟩
    have hcv : (convert 48 9 (.slice (some ⟨w.heap.size, 0, none⟩) (Lib.nDigits u) 24)).run Tryz.prog ((putRow (fun (b : UInt8) => Value.int .u8 (b.toNat : Int)) (w.alloc (.cells Lib.zeros24 149)) w.heap.size 0 dk).drewN k) = .ok (.string ⟨(Lib.decDigits u).toArray⟩) ((putRow (fun (b : UInt8) => Value.int .u8 (b.toNat : Int)) (w.alloc (.cells Lib.zeros24 149)) w.heap.size 0 dk).drewN k) := by
      have h := run_convert_bytes_back (P := Tryz.prog) ((putRow (fun (b : UInt8) => Value.int .u8 (b.toNat : Int)) (w.alloc (.cells Lib.zeros24 149)) w.heap.size 0 dk).drewN k) 48 9 5 ⟨w.heap.size, 0, none⟩ 24 (Lib.decDigits u) Tryz.underlying48 Tryz.underlying5 Tryz.underlying9 (fun j hj => by
        rw [Lib.row_is_numeral hF j hj, Lib.add_plain, World.cell?_drewN]
        exact cell?_putRow (fun (b : UInt8) => Value.int .u8 (b.toNat : Int)) _ w.heap.size 0 _ dk HH0.out (by rw [hF.size, Array.size_replicate]) j (by rw [hF.size]; rw [Lib.decDigits_length] at hj; exact hj))
      rw [Lib.decDigits_length] at h
      exact h
    go_wp2
    go_ret
    obtain ⟨os, eo⟩ := Lib.fin_at w (.cells Lib.zeros24 149) dk k 0
    exact ⟨rfl, by rw [eo]; exact Lib.below_grow _ w (Nat.le_refl _) k os⟩

set_option maxRecDepth 100000 in
theorem fmt_uint_pub (u : Nat) (hu64 : u < 18446744073709551616) (w : World) (htab : 100 ≤ u → Lib.TabIs Tryz.prog w "internal/strconv.uint64pow10" .u64 Lib.pow10Tab) :
    Calls Tryz.prog 39 #[.int .u64 u, .int .i64 10] w fun e w' => e = .returned (.string ⟨(Lib.decDigits u).toArray⟩) ∧ Below w.heap.size w w' := by
  have hf := fmt_uint u hu64 w htab
  go_enter Tryz.func39, Tryz.ntmps39
  go_wp2_with (go_at_call 68; refine hf.mono ?_; rintro e w' ⟨rfl, hw⟩)
  go_ret
  exact ⟨rfl, hw⟩

theorem dec_call : DecCall Tryz.prog 39 3 := fun n w hn ht => fmt_uint_pub n (by omega) w fun h => tabIs_of (ht h)
theorem itoa_call : ItoaCall Tryz.prog 38 3 := fun n w h0 h1 ht => by
  refine (Any.strconv_Itoa Tryz.lays171 n h0 h1 w (tabIs_of ht)).mono ?_
  rintro e w' ⟨rfl, k, os, rfl⟩
  exact ⟨rfl, Lib.below_grow _ w (Nat.le_refl _) k os⟩

theorem g39 : HookOK Tryz.prog 39 5242932 := hook_dec (o := 5) (b := 3) (by rfl) (by rfl) (by rfl) (enters_of Tryz.func39 (by kernel_rfl) rfl) dec_call
theorem g38 : HookOK Tryz.prog 38 5242943 := hook_itoa (o := 5) (b := 3) (by rfl) (by rfl) (by rfl) (enters_of Tryz.func38 (by kernel_rfl) rfl) itoa_call
theorem g95 : HookOK Tryz.prog 95 64 := hook_any (by rfl) (by decide) (by rfl) (enters_of Tryz.func95 (by kernel_rfl) rfl) (any_call Tryz.lays150 (by kernel_rfl))
theorem g54 : HookOK Tryz.prog 54 80 := hook_count (by rfl) (by decide) (by rfl) (enters_of Tryz.func54 (by kernel_rfl) rfl) (count_call Tryz.lays138)
theorem g55 : HookOK Tryz.prog 55 96 := hook_index (by rfl) (by decide) (by rfl) (enters_of Tryz.func55 (by kernel_rfl) rfl) (index_call Tryz.lays143)
end Go.Proofs.YtkoccbggjfbgaaaGreatDoor
