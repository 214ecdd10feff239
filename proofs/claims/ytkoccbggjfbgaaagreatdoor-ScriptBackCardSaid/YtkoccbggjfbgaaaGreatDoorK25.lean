/-
  strings.Builder, Split, FieldsFunc and ParseUint at this seat: what the abstract machine says of them is so. The awake function of law01 says true, where those below say so. The awake function of law02 says true, where those below say so. The awake function of law03 says true, where those below say so. The awake function of law04 says true, where those below say so. The awake function of law05 says true, where those below say so. The awake function of law06 says true, where those below say so. The awake function of law07 says true, where those below say so. The awake function of law08 says true, where those below say so. The awake function of law09 says true, where those below say so. The awake function of law10 says true, where those below say so. The awake function of law11 says true, where those below say so. The awake function of law12 says true, where those below say so. The awake function of law13 says true, where those below say so.
-/
import Derived.Test.YtkoccbggjfbgaaaGreatDoorK21
import Derived.Test.YtkoccbggjfbgaaaGreatDoorK24
import Derived.Test.YtkoccbggjfbgaaaGreatDoorK06
set_option linter.all false

section
open Go.Eng Go.RowKit Go.Shelf
namespace Go.Proofs.YtkoccbggjfbgaaaGreatDoor
theorem extra156 : Builder.Extra Tryz.prog Tryz.lays156_ren := {
  sizeBuilder := by kernel_rfl
  liesBuilder := by kernel_rfl
  t5 := Tryz.underlying5
  a5 := Tryz.isAgg5
  z5 := Tryz.sizeOf5
  v5 := Tryz.zeroValue5
  infoByte := by kernel_rfl
  cellsByte := by kernel_rfl
  sizeByte := by kernel_rfl
  neB5 := by decide }
theorem extra170 : Builder.Extra Tryz.prog Tryz.lays170_ren := {
  sizeBuilder := by kernel_rfl
  liesBuilder := by kernel_rfl
  t5 := Tryz.underlying5
  a5 := Tryz.isAgg5
  z5 := Tryz.sizeOf5
  v5 := Tryz.zeroValue5
  infoByte := by kernel_rfl
  cellsByte := by kernel_rfl
  sizeByte := by kernel_rfl
  neB5 := by decide }
theorem space_at (w : World) : PredAt Tryz.prog 44 #[] encR isSp w := fun W r _ => by
  unfold FnGives
  go_enter Tryz.func44, Tryz.ntmps44
  go_wp2
  go_ret
  refine ⟨?_, 0, rfl⟩
  have : decide ((r : Int) = 32) = isSp r := by
    unfold isSp
    cases hb : Nat.beq r 32 with
    | true => have := Nat.eq_of_beq_eq_true hb; subst this; rfl
    | false => exact decide_eq_false fun e => by have : r = 32 := by omega
                                                 subst this; simp at hb
  simp only [Ending.returned.injEq, Value.bool.injEq]
  rw [← this]; rfl
theorem g31 : HookOK Tryz.prog 31 75497560 := hook_grow (tb := 72) (e := 5) (by rfl) (by rfl) (by rfl) (enters_of Tryz.func31 (by kernel_rfl) rfl) (grow_call (ρ := Tryz.lays156_ren) { Tryz.lays156 with } extra156)
theorem g32 : HookOK Tryz.prog 32 75497559 := hook_write (tb := 72) (e := 5) (by rfl) (by rfl) (by rfl) (enters_of Tryz.func32 (by kernel_rfl) rfl) (write_call (ρ := Tryz.lays156_ren) { Tryz.lays156 with } extra156)
theorem g34 : HookOK Tryz.prog 34 75497563 := hook_str (tb := 72) (e := 5) (by rfl) (by rfl) (by rfl) (enters_of Tryz.func34 (by kernel_rfl) rfl) (str_call (ρ := Tryz.lays156_ren) { Tryz.lays156 with } extra156)
theorem g33 : HookOK Tryz.prog 33 75497561 := hook_len (tb := 72) (e := 5) (by rfl) (by rfl) (by rfl) (enters_of Tryz.func33 (by kernel_rfl) rfl) (len_call Tryz.lays170 extra170)
theorem g19 : HookOK Tryz.prog 19 156 := hook_split (t := 9) (by rfl) (by rfl) (enters_of Tryz.func19 (by kernel_rfl) rfl) (split_call Tryz.lays146 (by kernel_rfl))
theorem g43 : HookOK Tryz.prog 43 46137501 := hook_fields (g := 44) (t := 9) (by rfl) (by rfl) (by rfl) (enters_of Tryz.func43 (by kernel_rfl) rfl) (fields_call Tryz.lays229 44 (enters_of Tryz.func44 (by kernel_rfl) rfl) space_at (by kernel_rfl) (by kernel_rfl))
theorem g145 : HookOK Tryz.prog 145 4238 := hook_parse (t := 264) (by rfl) (by rfl) (enters_of Tryz.func145 (by kernel_rfl) rfl) (parse_call Tryz.lays287)
end Go.Proofs.YtkoccbggjfbgaaaGreatDoor
end

section
open Go.Eng
namespace Go.Proofs.YtkoccbggjfbgaaaGreatDoor
theorem alaw01 (g172 : HookOK Tryz.prog 172 3205) (g171 : HookOK Tryz.prog 171 209715254) (g145 : HookOK Tryz.prog 145 4238) (g43 : HookOK Tryz.prog 43 46137501) (g34 : HookOK Tryz.prog 34 75497563) (g33 : HookOK Tryz.prog 33 75497561) (g32 : HookOK Tryz.prog 32 75497559) (g31 : HookOK Tryz.prog 31 75497560) (g19 : HookOK Tryz.prog 19 156)  : SaysTrue Tryz.prog 419 :=
  says_of_yes (E := envOf Tryz.prog (tabOf [(301, 1), (247, 3), (196, 2), (172, 3205), (171, 209715254), (145, 4238), (43, 46137501), (34, 75497563), (33, 75497561), (32, 75497559), (31, 75497560), (19, 156)]) (tabOf sS) 72) (n := 3000) (envOf_list mixed_ok fields_ok names_ok held_ok (fun p hp => by
    simp only [List.mem_cons, List.not_mem_nil, or_false] at hp
    rcases hp with rfl | rfl | rfl | rfl | rfl | rfl | rfl | rfl | rfl | rfl | rfl | rfl
    · exact hk1
    · exact hk3
    · exact hk2
    · exact g172
    · exact g171
    · exact g145
    · exact g43
    · exact g34
    · exact g33
    · exact g32
    · exact g31
    · exact g19
  )) (by kernel_rfl) (by kernel_rfl)
theorem Alaw01 (g172 : HookOK Tryz.prog 172 3205) (g171 : HookOK Tryz.prog 171 209715254) (g145 : HookOK Tryz.prog 145 4238) (g43 : HookOK Tryz.prog 43 46137501) (g34 : HookOK Tryz.prog 34 75497563) (g33 : HookOK Tryz.prog 33 75497561) (g32 : HookOK Tryz.prog 32 75497559) (g31 : HookOK Tryz.prog 31 75497560) (g19 : HookOK Tryz.prog 19 156) (h419 : SaysTrue Tryz.prog 419) : SaysTrue Tryz.prog 418 :=
  says_of_yes (E := envOf Tryz.prog (tabOf [(301, 1), (247, 3), (196, 2), (172, 3205), (171, 209715254), (145, 4238), (43, 46137501), (34, 75497563), (33, 75497561), (32, 75497559), (31, 75497560), (19, 156), (419, 10)]) (tabOf sS) 72) (n := 3000) (envOf_list mixed_ok fields_ok names_ok held_ok (fun p hp => by
    simp only [List.mem_cons, List.not_mem_nil, or_false] at hp
    rcases hp with rfl | rfl | rfl | rfl | rfl | rfl | rfl | rfl | rfl | rfl | rfl | rfl | rfl
    · exact hk1
    · exact hk3
    · exact hk2
    · exact g172
    · exact g171
    · exact g145
    · exact g43
    · exact g34
    · exact g33
    · exact g32
    · exact g31
    · exact g19
    · exact h419.hook
  )) (by kernel_rfl) (by kernel_rfl)
end Go.Proofs.YtkoccbggjfbgaaaGreatDoor
end

section
open Go.Eng
namespace Go.Proofs.YtkoccbggjfbgaaaGreatDoor
theorem alaw02 (g172 : HookOK Tryz.prog 172 3205) (g171 : HookOK Tryz.prog 171 209715254) (g145 : HookOK Tryz.prog 145 4238) (g43 : HookOK Tryz.prog 43 46137501) (g34 : HookOK Tryz.prog 34 75497563) (g33 : HookOK Tryz.prog 33 75497561) (g32 : HookOK Tryz.prog 32 75497559) (g31 : HookOK Tryz.prog 31 75497560) (g19 : HookOK Tryz.prog 19 156) (h418 : SaysTrue Tryz.prog 418) : SaysTrue Tryz.prog 409 :=
  says_of_yes (E := envOf Tryz.prog (tabOf [(301, 1), (247, 3), (196, 2), (172, 3205), (171, 209715254), (145, 4238), (43, 46137501), (34, 75497563), (33, 75497561), (32, 75497559), (31, 75497560), (19, 156), (418, 10)]) (tabOf sS) 72) (n := 3000) (envOf_list mixed_ok fields_ok names_ok held_ok (fun p hp => by
    simp only [List.mem_cons, List.not_mem_nil, or_false] at hp
    rcases hp with rfl | rfl | rfl | rfl | rfl | rfl | rfl | rfl | rfl | rfl | rfl | rfl | rfl
    · exact hk1
    · exact hk3
    · exact hk2
    · exact g172
    · exact g171
    · exact g145
    · exact g43
    · exact g34
    · exact g33
    · exact g32
    · exact g31
    · exact g19
    · exact h418.hook
  )) (by kernel_rfl) (by kernel_rfl)
theorem Alaw02 (g172 : HookOK Tryz.prog 172 3205) (g171 : HookOK Tryz.prog 171 209715254) (g145 : HookOK Tryz.prog 145 4238) (g43 : HookOK Tryz.prog 43 46137501) (g34 : HookOK Tryz.prog 34 75497563) (g33 : HookOK Tryz.prog 33 75497561) (g32 : HookOK Tryz.prog 32 75497559) (g31 : HookOK Tryz.prog 31 75497560) (g19 : HookOK Tryz.prog 19 156) (h409 : SaysTrue Tryz.prog 409) : SaysTrue Tryz.prog 406 :=
  says_of_yes (E := envOf Tryz.prog (tabOf [(301, 1), (247, 3), (196, 2), (172, 3205), (171, 209715254), (145, 4238), (43, 46137501), (34, 75497563), (33, 75497561), (32, 75497559), (31, 75497560), (19, 156), (409, 10)]) (tabOf sS) 72) (n := 3000) (envOf_list mixed_ok fields_ok names_ok held_ok (fun p hp => by
    simp only [List.mem_cons, List.not_mem_nil, or_false] at hp
    rcases hp with rfl | rfl | rfl | rfl | rfl | rfl | rfl | rfl | rfl | rfl | rfl | rfl | rfl
    · exact hk1
    · exact hk3
    · exact hk2
    · exact g172
    · exact g171
    · exact g145
    · exact g43
    · exact g34
    · exact g33
    · exact g32
    · exact g31
    · exact g19
    · exact h409.hook
  )) (by kernel_rfl) (by kernel_rfl)
end Go.Proofs.YtkoccbggjfbgaaaGreatDoor
end

section
open Go.Eng
namespace Go.Proofs.YtkoccbggjfbgaaaGreatDoor
theorem alaw03 (g172 : HookOK Tryz.prog 172 3205) (g171 : HookOK Tryz.prog 171 209715254) (g145 : HookOK Tryz.prog 145 4238) (g43 : HookOK Tryz.prog 43 46137501) (g34 : HookOK Tryz.prog 34 75497563) (g33 : HookOK Tryz.prog 33 75497561) (g32 : HookOK Tryz.prog 32 75497559) (g31 : HookOK Tryz.prog 31 75497560) (g19 : HookOK Tryz.prog 19 156) (h418 : SaysTrue Tryz.prog 418) (h406 : SaysTrue Tryz.prog 406) : SaysTrue Tryz.prog 410 :=
  says_of_yes (E := envOf Tryz.prog (tabOf [(301, 1), (247, 3), (196, 2), (172, 3205), (171, 209715254), (145, 4238), (43, 46137501), (34, 75497563), (33, 75497561), (32, 75497559), (31, 75497560), (19, 156), (418, 10), (406, 10)]) (tabOf sS) 72) (n := 3000) (envOf_list mixed_ok fields_ok names_ok held_ok (fun p hp => by
    simp only [List.mem_cons, List.not_mem_nil, or_false] at hp
    rcases hp with rfl | rfl | rfl | rfl | rfl | rfl | rfl | rfl | rfl | rfl | rfl | rfl | rfl | rfl
    · exact hk1
    · exact hk3
    · exact hk2
    · exact g172
    · exact g171
    · exact g145
    · exact g43
    · exact g34
    · exact g33
    · exact g32
    · exact g31
    · exact g19
    · exact h418.hook
    · exact h406.hook
  )) (by kernel_rfl) (by kernel_rfl)
theorem Alaw03 (g172 : HookOK Tryz.prog 172 3205) (g171 : HookOK Tryz.prog 171 209715254) (g145 : HookOK Tryz.prog 145 4238) (g43 : HookOK Tryz.prog 43 46137501) (g34 : HookOK Tryz.prog 34 75497563) (g33 : HookOK Tryz.prog 33 75497561) (g32 : HookOK Tryz.prog 32 75497559) (g31 : HookOK Tryz.prog 31 75497560) (g19 : HookOK Tryz.prog 19 156) (h410 : SaysTrue Tryz.prog 410) : SaysTrue Tryz.prog 407 :=
  says_of_yes (E := envOf Tryz.prog (tabOf [(301, 1), (247, 3), (196, 2), (172, 3205), (171, 209715254), (145, 4238), (43, 46137501), (34, 75497563), (33, 75497561), (32, 75497559), (31, 75497560), (19, 156), (410, 10)]) (tabOf sS) 72) (n := 3000) (envOf_list mixed_ok fields_ok names_ok held_ok (fun p hp => by
    simp only [List.mem_cons, List.not_mem_nil, or_false] at hp
    rcases hp with rfl | rfl | rfl | rfl | rfl | rfl | rfl | rfl | rfl | rfl | rfl | rfl | rfl
    · exact hk1
    · exact hk3
    · exact hk2
    · exact g172
    · exact g171
    · exact g145
    · exact g43
    · exact g34
    · exact g33
    · exact g32
    · exact g31
    · exact g19
    · exact h410.hook
  )) (by kernel_rfl) (by kernel_rfl)
end Go.Proofs.YtkoccbggjfbgaaaGreatDoor
end

section
open Go.Eng
namespace Go.Proofs.YtkoccbggjfbgaaaGreatDoor
theorem alaw04 (g172 : HookOK Tryz.prog 172 3205) (g171 : HookOK Tryz.prog 171 209715254) (g145 : HookOK Tryz.prog 145 4238) (g43 : HookOK Tryz.prog 43 46137501) (g34 : HookOK Tryz.prog 34 75497563) (g33 : HookOK Tryz.prog 33 75497561) (g32 : HookOK Tryz.prog 32 75497559) (g31 : HookOK Tryz.prog 31 75497560) (g19 : HookOK Tryz.prog 19 156) (h418 : SaysTrue Tryz.prog 418) (h406 : SaysTrue Tryz.prog 406) (h407 : SaysTrue Tryz.prog 407) : SaysTrue Tryz.prog 397 :=
  says_of_yes (E := envOf Tryz.prog (tabOf [(301, 1), (247, 3), (196, 2), (172, 3205), (171, 209715254), (145, 4238), (43, 46137501), (34, 75497563), (33, 75497561), (32, 75497559), (31, 75497560), (19, 156), (418, 10), (406, 10), (407, 10)]) (tabOf sS) 72) (n := 3000) (envOf_list mixed_ok fields_ok names_ok held_ok (fun p hp => by
    simp only [List.mem_cons, List.not_mem_nil, or_false] at hp
    rcases hp with rfl | rfl | rfl | rfl | rfl | rfl | rfl | rfl | rfl | rfl | rfl | rfl | rfl | rfl | rfl
    · exact hk1
    · exact hk3
    · exact hk2
    · exact g172
    · exact g171
    · exact g145
    · exact g43
    · exact g34
    · exact g33
    · exact g32
    · exact g31
    · exact g19
    · exact h418.hook
    · exact h406.hook
    · exact h407.hook
  )) (by kernel_rfl) (by kernel_rfl)
theorem Alaw04 (g172 : HookOK Tryz.prog 172 3205) (g171 : HookOK Tryz.prog 171 209715254) (g145 : HookOK Tryz.prog 145 4238) (g43 : HookOK Tryz.prog 43 46137501) (g34 : HookOK Tryz.prog 34 75497563) (g33 : HookOK Tryz.prog 33 75497561) (g32 : HookOK Tryz.prog 32 75497559) (g31 : HookOK Tryz.prog 31 75497560) (g19 : HookOK Tryz.prog 19 156) (h397 : SaysTrue Tryz.prog 397) : SaysTrue Tryz.prog 392 :=
  says_of_yes (E := envOf Tryz.prog (tabOf [(301, 1), (247, 3), (196, 2), (172, 3205), (171, 209715254), (145, 4238), (43, 46137501), (34, 75497563), (33, 75497561), (32, 75497559), (31, 75497560), (19, 156), (397, 10)]) (tabOf sS) 72) (n := 3000) (envOf_list mixed_ok fields_ok names_ok held_ok (fun p hp => by
    simp only [List.mem_cons, List.not_mem_nil, or_false] at hp
    rcases hp with rfl | rfl | rfl | rfl | rfl | rfl | rfl | rfl | rfl | rfl | rfl | rfl | rfl
    · exact hk1
    · exact hk3
    · exact hk2
    · exact g172
    · exact g171
    · exact g145
    · exact g43
    · exact g34
    · exact g33
    · exact g32
    · exact g31
    · exact g19
    · exact h397.hook
  )) (by kernel_rfl) (by kernel_rfl)
end Go.Proofs.YtkoccbggjfbgaaaGreatDoor
end

section
open Go.Eng
namespace Go.Proofs.YtkoccbggjfbgaaaGreatDoor
theorem alaw05 (g172 : HookOK Tryz.prog 172 3205) (g171 : HookOK Tryz.prog 171 209715254) (g145 : HookOK Tryz.prog 145 4238) (g43 : HookOK Tryz.prog 43 46137501) (g34 : HookOK Tryz.prog 34 75497563) (g33 : HookOK Tryz.prog 33 75497561) (g32 : HookOK Tryz.prog 32 75497559) (g31 : HookOK Tryz.prog 31 75497560) (g19 : HookOK Tryz.prog 19 156) (h418 : SaysTrue Tryz.prog 418) (h406 : SaysTrue Tryz.prog 406) (h407 : SaysTrue Tryz.prog 407) (h392 : SaysTrue Tryz.prog 392) : SaysTrue Tryz.prog 390 :=
  says_of_yes (E := envOf Tryz.prog (tabOf [(301, 1), (247, 3), (196, 2), (172, 3205), (171, 209715254), (145, 4238), (43, 46137501), (34, 75497563), (33, 75497561), (32, 75497559), (31, 75497560), (19, 156), (418, 10), (406, 10), (407, 10), (392, 10)]) (tabOf sS) 72) (n := 3000) (envOf_list mixed_ok fields_ok names_ok held_ok (fun p hp => by
    simp only [List.mem_cons, List.not_mem_nil, or_false] at hp
    rcases hp with rfl | rfl | rfl | rfl | rfl | rfl | rfl | rfl | rfl | rfl | rfl | rfl | rfl | rfl | rfl | rfl
    · exact hk1
    · exact hk3
    · exact hk2
    · exact g172
    · exact g171
    · exact g145
    · exact g43
    · exact g34
    · exact g33
    · exact g32
    · exact g31
    · exact g19
    · exact h418.hook
    · exact h406.hook
    · exact h407.hook
    · exact h392.hook
  )) (by kernel_rfl) (by kernel_rfl)
theorem Alaw05 (g172 : HookOK Tryz.prog 172 3205) (g171 : HookOK Tryz.prog 171 209715254) (g145 : HookOK Tryz.prog 145 4238) (g43 : HookOK Tryz.prog 43 46137501) (g34 : HookOK Tryz.prog 34 75497563) (g33 : HookOK Tryz.prog 33 75497561) (g32 : HookOK Tryz.prog 32 75497559) (g31 : HookOK Tryz.prog 31 75497560) (g19 : HookOK Tryz.prog 19 156) (h390 : SaysTrue Tryz.prog 390) : SaysTrue Tryz.prog 388 :=
  says_of_yes (E := envOf Tryz.prog (tabOf [(301, 1), (247, 3), (196, 2), (172, 3205), (171, 209715254), (145, 4238), (43, 46137501), (34, 75497563), (33, 75497561), (32, 75497559), (31, 75497560), (19, 156), (390, 10)]) (tabOf sS) 72) (n := 3000) (envOf_list mixed_ok fields_ok names_ok held_ok (fun p hp => by
    simp only [List.mem_cons, List.not_mem_nil, or_false] at hp
    rcases hp with rfl | rfl | rfl | rfl | rfl | rfl | rfl | rfl | rfl | rfl | rfl | rfl | rfl
    · exact hk1
    · exact hk3
    · exact hk2
    · exact g172
    · exact g171
    · exact g145
    · exact g43
    · exact g34
    · exact g33
    · exact g32
    · exact g31
    · exact g19
    · exact h390.hook
  )) (by kernel_rfl) (by kernel_rfl)
end Go.Proofs.YtkoccbggjfbgaaaGreatDoor
end

section
open Go.Eng
namespace Go.Proofs.YtkoccbggjfbgaaaGreatDoor
theorem alaw06 (g172 : HookOK Tryz.prog 172 3205) (g171 : HookOK Tryz.prog 171 209715254) (g145 : HookOK Tryz.prog 145 4238) (g43 : HookOK Tryz.prog 43 46137501) (g34 : HookOK Tryz.prog 34 75497563) (g33 : HookOK Tryz.prog 33 75497561) (g32 : HookOK Tryz.prog 32 75497559) (g31 : HookOK Tryz.prog 31 75497560) (g19 : HookOK Tryz.prog 19 156) (h418 : SaysTrue Tryz.prog 418) (h406 : SaysTrue Tryz.prog 406) (h407 : SaysTrue Tryz.prog 407) (h392 : SaysTrue Tryz.prog 392) (h388 : SaysTrue Tryz.prog 388) : SaysTrue Tryz.prog 391 :=
  says_of_yes (E := envOf Tryz.prog (tabOf [(301, 1), (247, 3), (196, 2), (172, 3205), (171, 209715254), (145, 4238), (43, 46137501), (34, 75497563), (33, 75497561), (32, 75497559), (31, 75497560), (19, 156), (418, 10), (406, 10), (407, 10), (392, 10), (388, 10)]) (tabOf sS) 72) (n := 3000) (envOf_list mixed_ok fields_ok names_ok held_ok (fun p hp => by
    simp only [List.mem_cons, List.not_mem_nil, or_false] at hp
    rcases hp with rfl | rfl | rfl | rfl | rfl | rfl | rfl | rfl | rfl | rfl | rfl | rfl | rfl | rfl | rfl | rfl | rfl
    · exact hk1
    · exact hk3
    · exact hk2
    · exact g172
    · exact g171
    · exact g145
    · exact g43
    · exact g34
    · exact g33
    · exact g32
    · exact g31
    · exact g19
    · exact h418.hook
    · exact h406.hook
    · exact h407.hook
    · exact h392.hook
    · exact h388.hook
  )) (by kernel_rfl) (by kernel_rfl)
theorem Alaw06 (g172 : HookOK Tryz.prog 172 3205) (g171 : HookOK Tryz.prog 171 209715254) (g145 : HookOK Tryz.prog 145 4238) (g43 : HookOK Tryz.prog 43 46137501) (g34 : HookOK Tryz.prog 34 75497563) (g33 : HookOK Tryz.prog 33 75497561) (g32 : HookOK Tryz.prog 32 75497559) (g31 : HookOK Tryz.prog 31 75497560) (g19 : HookOK Tryz.prog 19 156) (h391 : SaysTrue Tryz.prog 391) : SaysTrue Tryz.prog 389 :=
  says_of_yes (E := envOf Tryz.prog (tabOf [(301, 1), (247, 3), (196, 2), (172, 3205), (171, 209715254), (145, 4238), (43, 46137501), (34, 75497563), (33, 75497561), (32, 75497559), (31, 75497560), (19, 156), (391, 10)]) (tabOf sS) 72) (n := 3000) (envOf_list mixed_ok fields_ok names_ok held_ok (fun p hp => by
    simp only [List.mem_cons, List.not_mem_nil, or_false] at hp
    rcases hp with rfl | rfl | rfl | rfl | rfl | rfl | rfl | rfl | rfl | rfl | rfl | rfl | rfl
    · exact hk1
    · exact hk3
    · exact hk2
    · exact g172
    · exact g171
    · exact g145
    · exact g43
    · exact g34
    · exact g33
    · exact g32
    · exact g31
    · exact g19
    · exact h391.hook
  )) (by kernel_rfl) (by kernel_rfl)
end Go.Proofs.YtkoccbggjfbgaaaGreatDoor
end

section
open Go.Eng
namespace Go.Proofs.YtkoccbggjfbgaaaGreatDoor
theorem alaw07 (g172 : HookOK Tryz.prog 172 3205) (g171 : HookOK Tryz.prog 171 209715254) (g145 : HookOK Tryz.prog 145 4238) (g43 : HookOK Tryz.prog 43 46137501) (g34 : HookOK Tryz.prog 34 75497563) (g33 : HookOK Tryz.prog 33 75497561) (g32 : HookOK Tryz.prog 32 75497559) (g31 : HookOK Tryz.prog 31 75497560) (g19 : HookOK Tryz.prog 19 156) (h418 : SaysTrue Tryz.prog 418) (h406 : SaysTrue Tryz.prog 406) (h407 : SaysTrue Tryz.prog 407) (h392 : SaysTrue Tryz.prog 392) (h388 : SaysTrue Tryz.prog 388) (h389 : SaysTrue Tryz.prog 389) : SaysTrue Tryz.prog 385 :=
  says_of_yes (E := envOf Tryz.prog (tabOf [(301, 1), (247, 3), (196, 2), (172, 3205), (171, 209715254), (145, 4238), (43, 46137501), (34, 75497563), (33, 75497561), (32, 75497559), (31, 75497560), (19, 156), (418, 10), (406, 10), (407, 10), (392, 10), (388, 10), (389, 10)]) (tabOf sS) 72) (n := 3000) (envOf_list mixed_ok fields_ok names_ok held_ok (fun p hp => by
    simp only [List.mem_cons, List.not_mem_nil, or_false] at hp
    rcases hp with rfl | rfl | rfl | rfl | rfl | rfl | rfl | rfl | rfl | rfl | rfl | rfl | rfl | rfl | rfl | rfl | rfl | rfl
    · exact hk1
    · exact hk3
    · exact hk2
    · exact g172
    · exact g171
    · exact g145
    · exact g43
    · exact g34
    · exact g33
    · exact g32
    · exact g31
    · exact g19
    · exact h418.hook
    · exact h406.hook
    · exact h407.hook
    · exact h392.hook
    · exact h388.hook
    · exact h389.hook
  )) (by kernel_rfl) (by kernel_rfl)
theorem Alaw07 (g172 : HookOK Tryz.prog 172 3205) (g171 : HookOK Tryz.prog 171 209715254) (g145 : HookOK Tryz.prog 145 4238) (g43 : HookOK Tryz.prog 43 46137501) (g34 : HookOK Tryz.prog 34 75497563) (g33 : HookOK Tryz.prog 33 75497561) (g32 : HookOK Tryz.prog 32 75497559) (g31 : HookOK Tryz.prog 31 75497560) (g19 : HookOK Tryz.prog 19 156) (h385 : SaysTrue Tryz.prog 385) : SaysTrue Tryz.prog 384 :=
  says_of_yes (E := envOf Tryz.prog (tabOf [(301, 1), (247, 3), (196, 2), (172, 3205), (171, 209715254), (145, 4238), (43, 46137501), (34, 75497563), (33, 75497561), (32, 75497559), (31, 75497560), (19, 156), (385, 10)]) (tabOf sS) 72) (n := 3000) (envOf_list mixed_ok fields_ok names_ok held_ok (fun p hp => by
    simp only [List.mem_cons, List.not_mem_nil, or_false] at hp
    rcases hp with rfl | rfl | rfl | rfl | rfl | rfl | rfl | rfl | rfl | rfl | rfl | rfl | rfl
    · exact hk1
    · exact hk3
    · exact hk2
    · exact g172
    · exact g171
    · exact g145
    · exact g43
    · exact g34
    · exact g33
    · exact g32
    · exact g31
    · exact g19
    · exact h385.hook
  )) (by kernel_rfl) (by kernel_rfl)
end Go.Proofs.YtkoccbggjfbgaaaGreatDoor
end

section
open Go.Eng
namespace Go.Proofs.YtkoccbggjfbgaaaGreatDoor
theorem alaw08 (g172 : HookOK Tryz.prog 172 3205) (g171 : HookOK Tryz.prog 171 209715254) (g145 : HookOK Tryz.prog 145 4238) (g43 : HookOK Tryz.prog 43 46137501) (g34 : HookOK Tryz.prog 34 75497563) (g33 : HookOK Tryz.prog 33 75497561) (g32 : HookOK Tryz.prog 32 75497559) (g31 : HookOK Tryz.prog 31 75497560) (g19 : HookOK Tryz.prog 19 156) (h418 : SaysTrue Tryz.prog 418) (h406 : SaysTrue Tryz.prog 406) (h407 : SaysTrue Tryz.prog 407) (h392 : SaysTrue Tryz.prog 392) (h388 : SaysTrue Tryz.prog 388) (h389 : SaysTrue Tryz.prog 389) (h384 : SaysTrue Tryz.prog 384) : SaysTrue Tryz.prog 383 :=
  says_of_yes (E := envOf Tryz.prog (tabOf [(301, 1), (247, 3), (196, 2), (172, 3205), (171, 209715254), (145, 4238), (43, 46137501), (34, 75497563), (33, 75497561), (32, 75497559), (31, 75497560), (19, 156), (418, 10), (406, 10), (407, 10), (392, 10), (388, 10), (389, 10), (384, 10)]) (tabOf sS) 72) (n := 3000) (envOf_list mixed_ok fields_ok names_ok held_ok (fun p hp => by
    simp only [List.mem_cons, List.not_mem_nil, or_false] at hp
    rcases hp with rfl | rfl | rfl | rfl | rfl | rfl | rfl | rfl | rfl | rfl | rfl | rfl | rfl | rfl | rfl | rfl | rfl | rfl | rfl
    · exact hk1
    · exact hk3
    · exact hk2
    · exact g172
    · exact g171
    · exact g145
    · exact g43
    · exact g34
    · exact g33
    · exact g32
    · exact g31
    · exact g19
    · exact h418.hook
    · exact h406.hook
    · exact h407.hook
    · exact h392.hook
    · exact h388.hook
    · exact h389.hook
    · exact h384.hook
  )) (by kernel_rfl) (by kernel_rfl)
theorem Alaw08 (g172 : HookOK Tryz.prog 172 3205) (g171 : HookOK Tryz.prog 171 209715254) (g145 : HookOK Tryz.prog 145 4238) (g43 : HookOK Tryz.prog 43 46137501) (g34 : HookOK Tryz.prog 34 75497563) (g33 : HookOK Tryz.prog 33 75497561) (g32 : HookOK Tryz.prog 32 75497559) (g31 : HookOK Tryz.prog 31 75497560) (g19 : HookOK Tryz.prog 19 156) (h383 : SaysTrue Tryz.prog 383) : SaysTrue Tryz.prog 382 :=
  says_of_yes (E := envOf Tryz.prog (tabOf [(301, 1), (247, 3), (196, 2), (172, 3205), (171, 209715254), (145, 4238), (43, 46137501), (34, 75497563), (33, 75497561), (32, 75497559), (31, 75497560), (19, 156), (383, 10)]) (tabOf sS) 72) (n := 3000) (envOf_list mixed_ok fields_ok names_ok held_ok (fun p hp => by
    simp only [List.mem_cons, List.not_mem_nil, or_false] at hp
    rcases hp with rfl | rfl | rfl | rfl | rfl | rfl | rfl | rfl | rfl | rfl | rfl | rfl | rfl
    · exact hk1
    · exact hk3
    · exact hk2
    · exact g172
    · exact g171
    · exact g145
    · exact g43
    · exact g34
    · exact g33
    · exact g32
    · exact g31
    · exact g19
    · exact h383.hook
  )) (by kernel_rfl) (by kernel_rfl)
end Go.Proofs.YtkoccbggjfbgaaaGreatDoor
end

section
open Go.Eng
namespace Go.Proofs.YtkoccbggjfbgaaaGreatDoor
theorem alaw09 (g172 : HookOK Tryz.prog 172 3205) (g171 : HookOK Tryz.prog 171 209715254) (g145 : HookOK Tryz.prog 145 4238) (g43 : HookOK Tryz.prog 43 46137501) (g34 : HookOK Tryz.prog 34 75497563) (g33 : HookOK Tryz.prog 33 75497561) (g32 : HookOK Tryz.prog 32 75497559) (g31 : HookOK Tryz.prog 31 75497560) (g19 : HookOK Tryz.prog 19 156) (h418 : SaysTrue Tryz.prog 418) (h406 : SaysTrue Tryz.prog 406) (h407 : SaysTrue Tryz.prog 407) (h392 : SaysTrue Tryz.prog 392) (h388 : SaysTrue Tryz.prog 388) (h389 : SaysTrue Tryz.prog 389) (h384 : SaysTrue Tryz.prog 384) (h382 : SaysTrue Tryz.prog 382) : SaysTrue Tryz.prog 381 :=
  says_of_yes (E := envOf Tryz.prog (tabOf [(301, 1), (247, 3), (196, 2), (172, 3205), (171, 209715254), (145, 4238), (43, 46137501), (34, 75497563), (33, 75497561), (32, 75497559), (31, 75497560), (19, 156), (418, 10), (406, 10), (407, 10), (392, 10), (388, 10), (389, 10), (384, 10), (382, 10)]) (tabOf sS) 72) (n := 3000) (envOf_list mixed_ok fields_ok names_ok held_ok (fun p hp => by
    simp only [List.mem_cons, List.not_mem_nil, or_false] at hp
    rcases hp with rfl | rfl | rfl | rfl | rfl | rfl | rfl | rfl | rfl | rfl | rfl | rfl | rfl | rfl | rfl | rfl | rfl | rfl | rfl | rfl
    · exact hk1
    · exact hk3
    · exact hk2
    · exact g172
    · exact g171
    · exact g145
    · exact g43
    · exact g34
    · exact g33
    · exact g32
    · exact g31
    · exact g19
    · exact h418.hook
    · exact h406.hook
    · exact h407.hook
    · exact h392.hook
    · exact h388.hook
    · exact h389.hook
    · exact h384.hook
    · exact h382.hook
  )) (by kernel_rfl) (by kernel_rfl)
theorem Alaw09 (g172 : HookOK Tryz.prog 172 3205) (g171 : HookOK Tryz.prog 171 209715254) (g145 : HookOK Tryz.prog 145 4238) (g43 : HookOK Tryz.prog 43 46137501) (g34 : HookOK Tryz.prog 34 75497563) (g33 : HookOK Tryz.prog 33 75497561) (g32 : HookOK Tryz.prog 32 75497559) (g31 : HookOK Tryz.prog 31 75497560) (g19 : HookOK Tryz.prog 19 156) (h381 : SaysTrue Tryz.prog 381) : SaysTrue Tryz.prog 380 :=
  says_of_yes (E := envOf Tryz.prog (tabOf [(301, 1), (247, 3), (196, 2), (172, 3205), (171, 209715254), (145, 4238), (43, 46137501), (34, 75497563), (33, 75497561), (32, 75497559), (31, 75497560), (19, 156), (381, 10)]) (tabOf sS) 72) (n := 3000) (envOf_list mixed_ok fields_ok names_ok held_ok (fun p hp => by
    simp only [List.mem_cons, List.not_mem_nil, or_false] at hp
    rcases hp with rfl | rfl | rfl | rfl | rfl | rfl | rfl | rfl | rfl | rfl | rfl | rfl | rfl
    · exact hk1
    · exact hk3
    · exact hk2
    · exact g172
    · exact g171
    · exact g145
    · exact g43
    · exact g34
    · exact g33
    · exact g32
    · exact g31
    · exact g19
    · exact h381.hook
  )) (by kernel_rfl) (by kernel_rfl)
end Go.Proofs.YtkoccbggjfbgaaaGreatDoor
end

section
open Go.Eng
namespace Go.Proofs.YtkoccbggjfbgaaaGreatDoor
theorem alaw10 (g172 : HookOK Tryz.prog 172 3205) (g171 : HookOK Tryz.prog 171 209715254) (g145 : HookOK Tryz.prog 145 4238) (g43 : HookOK Tryz.prog 43 46137501) (g34 : HookOK Tryz.prog 34 75497563) (g33 : HookOK Tryz.prog 33 75497561) (g32 : HookOK Tryz.prog 32 75497559) (g31 : HookOK Tryz.prog 31 75497560) (g19 : HookOK Tryz.prog 19 156) (h418 : SaysTrue Tryz.prog 418) (h406 : SaysTrue Tryz.prog 406) (h407 : SaysTrue Tryz.prog 407) (h392 : SaysTrue Tryz.prog 392) (h388 : SaysTrue Tryz.prog 388) (h389 : SaysTrue Tryz.prog 389) (h384 : SaysTrue Tryz.prog 384) (h382 : SaysTrue Tryz.prog 382) (h380 : SaysTrue Tryz.prog 380) : SaysTrue Tryz.prog 379 :=
  says_of_yes (E := envOf Tryz.prog (tabOf [(301, 1), (247, 3), (196, 2), (172, 3205), (171, 209715254), (145, 4238), (43, 46137501), (34, 75497563), (33, 75497561), (32, 75497559), (31, 75497560), (19, 156), (418, 10), (406, 10), (407, 10), (392, 10), (388, 10), (389, 10), (384, 10), (382, 10), (380, 10)]) (tabOf sS) 72) (n := 3000) (envOf_list mixed_ok fields_ok names_ok held_ok (fun p hp => by
    simp only [List.mem_cons, List.not_mem_nil, or_false] at hp
    rcases hp with rfl | rfl | rfl | rfl | rfl | rfl | rfl | rfl | rfl | rfl | rfl | rfl | rfl | rfl | rfl | rfl | rfl | rfl | rfl | rfl | rfl
    · exact hk1
    · exact hk3
    · exact hk2
    · exact g172
    · exact g171
    · exact g145
    · exact g43
    · exact g34
    · exact g33
    · exact g32
    · exact g31
    · exact g19
    · exact h418.hook
    · exact h406.hook
    · exact h407.hook
    · exact h392.hook
    · exact h388.hook
    · exact h389.hook
    · exact h384.hook
    · exact h382.hook
    · exact h380.hook
  )) (by kernel_rfl) (by kernel_rfl)
theorem Alaw10 (g172 : HookOK Tryz.prog 172 3205) (g171 : HookOK Tryz.prog 171 209715254) (g145 : HookOK Tryz.prog 145 4238) (g43 : HookOK Tryz.prog 43 46137501) (g34 : HookOK Tryz.prog 34 75497563) (g33 : HookOK Tryz.prog 33 75497561) (g32 : HookOK Tryz.prog 32 75497559) (g31 : HookOK Tryz.prog 31 75497560) (g19 : HookOK Tryz.prog 19 156) (h379 : SaysTrue Tryz.prog 379) : SaysTrue Tryz.prog 378 :=
  says_of_yes (E := envOf Tryz.prog (tabOf [(301, 1), (247, 3), (196, 2), (172, 3205), (171, 209715254), (145, 4238), (43, 46137501), (34, 75497563), (33, 75497561), (32, 75497559), (31, 75497560), (19, 156), (379, 10)]) (tabOf sS) 72) (n := 3000) (envOf_list mixed_ok fields_ok names_ok held_ok (fun p hp => by
    simp only [List.mem_cons, List.not_mem_nil, or_false] at hp
    rcases hp with rfl | rfl | rfl | rfl | rfl | rfl | rfl | rfl | rfl | rfl | rfl | rfl | rfl
    · exact hk1
    · exact hk3
    · exact hk2
    · exact g172
    · exact g171
    · exact g145
    · exact g43
    · exact g34
    · exact g33
    · exact g32
    · exact g31
    · exact g19
    · exact h379.hook
  )) (by kernel_rfl) (by kernel_rfl)
end Go.Proofs.YtkoccbggjfbgaaaGreatDoor
end

section
open Go.Eng
namespace Go.Proofs.YtkoccbggjfbgaaaGreatDoor
theorem alaw11 (g172 : HookOK Tryz.prog 172 3205) (g171 : HookOK Tryz.prog 171 209715254) (g145 : HookOK Tryz.prog 145 4238) (g43 : HookOK Tryz.prog 43 46137501) (g34 : HookOK Tryz.prog 34 75497563) (g33 : HookOK Tryz.prog 33 75497561) (g32 : HookOK Tryz.prog 32 75497559) (g31 : HookOK Tryz.prog 31 75497560) (g19 : HookOK Tryz.prog 19 156) (h418 : SaysTrue Tryz.prog 418) (h406 : SaysTrue Tryz.prog 406) (h407 : SaysTrue Tryz.prog 407) (h392 : SaysTrue Tryz.prog 392) (h388 : SaysTrue Tryz.prog 388) (h389 : SaysTrue Tryz.prog 389) (h384 : SaysTrue Tryz.prog 384) (h382 : SaysTrue Tryz.prog 382) (h380 : SaysTrue Tryz.prog 380) (h378 : SaysTrue Tryz.prog 378) : SaysTrue Tryz.prog 376 :=
  says_of_yes (E := envOf Tryz.prog (tabOf [(301, 1), (247, 3), (196, 2), (172, 3205), (171, 209715254), (145, 4238), (43, 46137501), (34, 75497563), (33, 75497561), (32, 75497559), (31, 75497560), (19, 156), (418, 10), (406, 10), (407, 10), (392, 10), (388, 10), (389, 10), (384, 10), (382, 10), (380, 10), (378, 10)]) (tabOf sS) 72) (n := 3000) (envOf_list mixed_ok fields_ok names_ok held_ok (fun p hp => by
    simp only [List.mem_cons, List.not_mem_nil, or_false] at hp
    rcases hp with rfl | rfl | rfl | rfl | rfl | rfl | rfl | rfl | rfl | rfl | rfl | rfl | rfl | rfl | rfl | rfl | rfl | rfl | rfl | rfl | rfl | rfl
    · exact hk1
    · exact hk3
    · exact hk2
    · exact g172
    · exact g171
    · exact g145
    · exact g43
    · exact g34
    · exact g33
    · exact g32
    · exact g31
    · exact g19
    · exact h418.hook
    · exact h406.hook
    · exact h407.hook
    · exact h392.hook
    · exact h388.hook
    · exact h389.hook
    · exact h384.hook
    · exact h382.hook
    · exact h380.hook
    · exact h378.hook
  )) (by kernel_rfl) (by kernel_rfl)
theorem Alaw11 (g172 : HookOK Tryz.prog 172 3205) (g171 : HookOK Tryz.prog 171 209715254) (g145 : HookOK Tryz.prog 145 4238) (g43 : HookOK Tryz.prog 43 46137501) (g34 : HookOK Tryz.prog 34 75497563) (g33 : HookOK Tryz.prog 33 75497561) (g32 : HookOK Tryz.prog 32 75497559) (g31 : HookOK Tryz.prog 31 75497560) (g19 : HookOK Tryz.prog 19 156) (h376 : SaysTrue Tryz.prog 376) : SaysTrue Tryz.prog 375 :=
  says_of_yes (E := envOf Tryz.prog (tabOf [(301, 1), (247, 3), (196, 2), (172, 3205), (171, 209715254), (145, 4238), (43, 46137501), (34, 75497563), (33, 75497561), (32, 75497559), (31, 75497560), (19, 156), (376, 10)]) (tabOf sS) 72) (n := 3000) (envOf_list mixed_ok fields_ok names_ok held_ok (fun p hp => by
    simp only [List.mem_cons, List.not_mem_nil, or_false] at hp
    rcases hp with rfl | rfl | rfl | rfl | rfl | rfl | rfl | rfl | rfl | rfl | rfl | rfl | rfl
    · exact hk1
    · exact hk3
    · exact hk2
    · exact g172
    · exact g171
    · exact g145
    · exact g43
    · exact g34
    · exact g33
    · exact g32
    · exact g31
    · exact g19
    · exact h376.hook
  )) (by kernel_rfl) (by kernel_rfl)
end Go.Proofs.YtkoccbggjfbgaaaGreatDoor
end

section
open Go.Eng
namespace Go.Proofs.YtkoccbggjfbgaaaGreatDoor
theorem alaw12 (g172 : HookOK Tryz.prog 172 3205) (g171 : HookOK Tryz.prog 171 209715254) (g145 : HookOK Tryz.prog 145 4238) (g43 : HookOK Tryz.prog 43 46137501) (g34 : HookOK Tryz.prog 34 75497563) (g33 : HookOK Tryz.prog 33 75497561) (g32 : HookOK Tryz.prog 32 75497559) (g31 : HookOK Tryz.prog 31 75497560) (g19 : HookOK Tryz.prog 19 156) (h418 : SaysTrue Tryz.prog 418) (h406 : SaysTrue Tryz.prog 406) (h407 : SaysTrue Tryz.prog 407) (h392 : SaysTrue Tryz.prog 392) (h388 : SaysTrue Tryz.prog 388) (h389 : SaysTrue Tryz.prog 389) (h384 : SaysTrue Tryz.prog 384) (h382 : SaysTrue Tryz.prog 382) (h380 : SaysTrue Tryz.prog 380) (h378 : SaysTrue Tryz.prog 378) (h375 : SaysTrue Tryz.prog 375) : SaysTrue Tryz.prog 374 :=
  says_of_yes (E := envOf Tryz.prog (tabOf [(301, 1), (247, 3), (196, 2), (172, 3205), (171, 209715254), (145, 4238), (43, 46137501), (34, 75497563), (33, 75497561), (32, 75497559), (31, 75497560), (19, 156), (418, 10), (406, 10), (407, 10), (392, 10), (388, 10), (389, 10), (384, 10), (382, 10), (380, 10), (378, 10), (375, 10)]) (tabOf sS) 72) (n := 3000) (envOf_list mixed_ok fields_ok names_ok held_ok (fun p hp => by
    simp only [List.mem_cons, List.not_mem_nil, or_false] at hp
    rcases hp with rfl | rfl | rfl | rfl | rfl | rfl | rfl | rfl | rfl | rfl | rfl | rfl | rfl | rfl | rfl | rfl | rfl | rfl | rfl | rfl | rfl | rfl | rfl
    · exact hk1
    · exact hk3
    · exact hk2
    · exact g172
    · exact g171
    · exact g145
    · exact g43
    · exact g34
    · exact g33
    · exact g32
    · exact g31
    · exact g19
    · exact h418.hook
    · exact h406.hook
    · exact h407.hook
    · exact h392.hook
    · exact h388.hook
    · exact h389.hook
    · exact h384.hook
    · exact h382.hook
    · exact h380.hook
    · exact h378.hook
    · exact h375.hook
  )) (by kernel_rfl) (by kernel_rfl)
theorem Alaw12 (g172 : HookOK Tryz.prog 172 3205) (g171 : HookOK Tryz.prog 171 209715254) (g145 : HookOK Tryz.prog 145 4238) (g43 : HookOK Tryz.prog 43 46137501) (g34 : HookOK Tryz.prog 34 75497563) (g33 : HookOK Tryz.prog 33 75497561) (g32 : HookOK Tryz.prog 32 75497559) (g31 : HookOK Tryz.prog 31 75497560) (g19 : HookOK Tryz.prog 19 156) (h374 : SaysTrue Tryz.prog 374) : SaysTrue Tryz.prog 372 :=
  says_of_yes (E := envOf Tryz.prog (tabOf [(301, 1), (247, 3), (196, 2), (172, 3205), (171, 209715254), (145, 4238), (43, 46137501), (34, 75497563), (33, 75497561), (32, 75497559), (31, 75497560), (19, 156), (374, 10)]) (tabOf sS) 72) (n := 3000) (envOf_list mixed_ok fields_ok names_ok held_ok (fun p hp => by
    simp only [List.mem_cons, List.not_mem_nil, or_false] at hp
    rcases hp with rfl | rfl | rfl | rfl | rfl | rfl | rfl | rfl | rfl | rfl | rfl | rfl | rfl
    · exact hk1
    · exact hk3
    · exact hk2
    · exact g172
    · exact g171
    · exact g145
    · exact g43
    · exact g34
    · exact g33
    · exact g32
    · exact g31
    · exact g19
    · exact h374.hook
  )) (by kernel_rfl) (by kernel_rfl)
end Go.Proofs.YtkoccbggjfbgaaaGreatDoor
end

section
open Go.Eng
namespace Go.Proofs.YtkoccbggjfbgaaaGreatDoor
theorem alaw13 (g172 : HookOK Tryz.prog 172 3205) (g171 : HookOK Tryz.prog 171 209715254) (g145 : HookOK Tryz.prog 145 4238) (g43 : HookOK Tryz.prog 43 46137501) (g34 : HookOK Tryz.prog 34 75497563) (g33 : HookOK Tryz.prog 33 75497561) (g32 : HookOK Tryz.prog 32 75497559) (g31 : HookOK Tryz.prog 31 75497560) (g19 : HookOK Tryz.prog 19 156) (h418 : SaysTrue Tryz.prog 418) (h406 : SaysTrue Tryz.prog 406) (h407 : SaysTrue Tryz.prog 407) (h392 : SaysTrue Tryz.prog 392) (h388 : SaysTrue Tryz.prog 388) (h389 : SaysTrue Tryz.prog 389) (h384 : SaysTrue Tryz.prog 384) (h382 : SaysTrue Tryz.prog 382) (h380 : SaysTrue Tryz.prog 380) (h378 : SaysTrue Tryz.prog 378) (h375 : SaysTrue Tryz.prog 375) (h372 : SaysTrue Tryz.prog 372) : SaysTrue Tryz.prog 370 :=
  says_of_yes (E := envOf Tryz.prog (tabOf [(301, 1), (247, 3), (196, 2), (172, 3205), (171, 209715254), (145, 4238), (43, 46137501), (34, 75497563), (33, 75497561), (32, 75497559), (31, 75497560), (19, 156), (418, 10), (406, 10), (407, 10), (392, 10), (388, 10), (389, 10), (384, 10), (382, 10), (380, 10), (378, 10), (375, 10), (372, 10)]) (tabOf sS) 72) (n := 3000) (envOf_list mixed_ok fields_ok names_ok held_ok (fun p hp => by
    simp only [List.mem_cons, List.not_mem_nil, or_false] at hp
    rcases hp with rfl | rfl | rfl | rfl | rfl | rfl | rfl | rfl | rfl | rfl | rfl | rfl | rfl | rfl | rfl | rfl | rfl | rfl | rfl | rfl | rfl | rfl | rfl | rfl
    · exact hk1
    · exact hk3
    · exact hk2
    · exact g172
    · exact g171
    · exact g145
    · exact g43
    · exact g34
    · exact g33
    · exact g32
    · exact g31
    · exact g19
    · exact h418.hook
    · exact h406.hook
    · exact h407.hook
    · exact h392.hook
    · exact h388.hook
    · exact h389.hook
    · exact h384.hook
    · exact h382.hook
    · exact h380.hook
    · exact h378.hook
    · exact h375.hook
    · exact h372.hook
  )) (by kernel_rfl) (by kernel_rfl)
theorem Alaw13 (g172 : HookOK Tryz.prog 172 3205) (g171 : HookOK Tryz.prog 171 209715254) (g145 : HookOK Tryz.prog 145 4238) (g43 : HookOK Tryz.prog 43 46137501) (g34 : HookOK Tryz.prog 34 75497563) (g33 : HookOK Tryz.prog 33 75497561) (g32 : HookOK Tryz.prog 32 75497559) (g31 : HookOK Tryz.prog 31 75497560) (g19 : HookOK Tryz.prog 19 156) (h370 : SaysTrue Tryz.prog 370) : SaysTrue Tryz.prog 369 :=
  says_of_yes (E := envOf Tryz.prog (tabOf [(301, 1), (247, 3), (196, 2), (172, 3205), (171, 209715254), (145, 4238), (43, 46137501), (34, 75497563), (33, 75497561), (32, 75497559), (31, 75497560), (19, 156), (370, 10)]) (tabOf sS) 72) (n := 3000) (envOf_list mixed_ok fields_ok names_ok held_ok (fun p hp => by
    simp only [List.mem_cons, List.not_mem_nil, or_false] at hp
    rcases hp with rfl | rfl | rfl | rfl | rfl | rfl | rfl | rfl | rfl | rfl | rfl | rfl | rfl
    · exact hk1
    · exact hk3
    · exact hk2
    · exact g172
    · exact g171
    · exact g145
    · exact g43
    · exact g34
    · exact g33
    · exact g32
    · exact g31
    · exact g19
    · exact h370.hook
  )) (by kernel_rfl) (by kernel_rfl)
end Go.Proofs.YtkoccbggjfbgaaaGreatDoor
end
