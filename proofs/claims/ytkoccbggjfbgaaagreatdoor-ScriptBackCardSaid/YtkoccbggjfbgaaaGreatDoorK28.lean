/-
  The awake function of law17 says true, where those below say so.
-/
import Derived.Test.YtkoccbggjfbgaaaGreatDoorK06
set_option linter.all false
open Go.Eng
namespace Go.Proofs.YtkoccbggjfbgaaaGreatDoor
theorem alaw17 (g172 : HookOK Tryz.prog 172 3205) (g171 : HookOK Tryz.prog 171 209715254) (g145 : HookOK Tryz.prog 145 4238) (g43 : HookOK Tryz.prog 43 46137501) (g34 : HookOK Tryz.prog 34 75497563) (g33 : HookOK Tryz.prog 33 75497561) (g32 : HookOK Tryz.prog 32 75497559) (g31 : HookOK Tryz.prog 31 75497560) (g19 : HookOK Tryz.prog 19 156) (h418 : SaysTrue Tryz.prog 418) (h406 : SaysTrue Tryz.prog 406) (h407 : SaysTrue Tryz.prog 407) (h392 : SaysTrue Tryz.prog 392) (h388 : SaysTrue Tryz.prog 388) (h389 : SaysTrue Tryz.prog 389) (h384 : SaysTrue Tryz.prog 384) (h382 : SaysTrue Tryz.prog 382) (h380 : SaysTrue Tryz.prog 380) (h378 : SaysTrue Tryz.prog 378) (h375 : SaysTrue Tryz.prog 375) (h372 : SaysTrue Tryz.prog 372) (h369 : SaysTrue Tryz.prog 369) (h367 : SaysTrue Tryz.prog 367) (h363 : SaysTrue Tryz.prog 363) (h361 : SaysTrue Tryz.prog 361) : SaysTrue Tryz.prog 360 :=
  says_of_yes (E := envOf Tryz.prog (tabOf [(301, 1), (247, 3), (196, 2), (172, 3205), (171, 209715254), (145, 4238), (43, 46137501), (34, 75497563), (33, 75497561), (32, 75497559), (31, 75497560), (19, 156), (418, 10), (406, 10), (407, 10), (392, 10), (388, 10), (389, 10), (384, 10), (382, 10), (380, 10), (378, 10), (375, 10), (372, 10), (369, 10), (367, 10), (363, 10), (361, 10)]) (tabOf sS) 72) (n := 3000) (envOf_list mixed_ok fields_ok names_ok held_ok (fun p hp => by
    simp only [List.mem_cons, List.not_mem_nil, or_false] at hp
    rcases hp with rfl | rfl | rfl | rfl | rfl | rfl | rfl | rfl | rfl | rfl | rfl | rfl | rfl | rfl | rfl | rfl | rfl | rfl | rfl | rfl | rfl | rfl | rfl | rfl | rfl | rfl | rfl | rfl
    · exact hk1
    · exact hk3
    · exact hk2
    · exact g172
    · exact g171
    · exact g145
    · exact g43
    · exact g34
    · exact g33
    · exact g32
    · exact g31
    · exact g19
    · exact h418.hook
    · exact h406.hook
    · exact h407.hook
    · exact h392.hook
    · exact h388.hook
    · exact h389.hook
    · exact h384.hook
    · exact h382.hook
    · exact h380.hook
    · exact h378.hook
    · exact h375.hook
    · exact h372.hook
    · exact h369.hook
    · exact h367.hook
    · exact h363.hook
    · exact h361.hook
  )) (by kernel_rfl) (by kernel_rfl)
theorem Alaw17 (g172 : HookOK Tryz.prog 172 3205) (g171 : HookOK Tryz.prog 171 209715254) (g145 : HookOK Tryz.prog 145 4238) (g43 : HookOK Tryz.prog 43 46137501) (g34 : HookOK Tryz.prog 34 75497563) (g33 : HookOK Tryz.prog 33 75497561) (g32 : HookOK Tryz.prog 32 75497559) (g31 : HookOK Tryz.prog 31 75497560) (g19 : HookOK Tryz.prog 19 156) (h360 : SaysTrue Tryz.prog 360) : SaysTrue Tryz.prog 354 :=
  says_of_yes (E := envOf Tryz.prog (tabOf [(301, 1), (247, 3), (196, 2), (172, 3205), (171, 209715254), (145, 4238), (43, 46137501), (34, 75497563), (33, 75497561), (32, 75497559), (31, 75497560), (19, 156), (360, 10)]) (tabOf sS) 72) (n := 3000) (envOf_list mixed_ok fields_ok names_ok held_ok (fun p hp => by
    simp only [List.mem_cons, List.not_mem_nil, or_false] at hp
    rcases hp with rfl | rfl | rfl | rfl | rfl | rfl | rfl | rfl | rfl | rfl | rfl | rfl | rfl
    · exact hk1
    · exact hk3
    · exact hk2
    · exact g172
    · exact g171
    · exact g145
    · exact g43
    · exact g34
    · exact g33
    · exact g32
    · exact g31
    · exact g19
    · exact h360.hook
  )) (by kernel_rfl) (by kernel_rfl)
end Go.Proofs.YtkoccbggjfbgaaaGreatDoor
