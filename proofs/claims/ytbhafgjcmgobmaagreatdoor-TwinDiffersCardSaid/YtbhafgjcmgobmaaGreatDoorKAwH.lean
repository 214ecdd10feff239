/-
  The awake function of law22 says true, where those below say so.
-/
import Derived.Test.YtbhafgjcmgobmaaGreatDoorKAwA
set_option linter.all false
open Go.Eng
namespace Go.Proofs.YtbhafgjcmgobmaaGreatDoor
theorem alaw22 (g341 : HookOK Tryz.prog 341 422576219) (g340 : HookOK Tryz.prog 340 422576215) (g339 : HookOK Tryz.prog 339 422576216) (g212 : HookOK Tryz.prog 212 5438) (g163 : HookOK Tryz.prog 163 171966621) (g122 : HookOK Tryz.prog 122 156) (g101 : HookOK Tryz.prog 101 2309) (g100 : HookOK Tryz.prog 100 150994998) (h449 : SaysTrue Tryz.prog 449) (h437 : SaysTrue Tryz.prog 437) (h438 : SaysTrue Tryz.prog 438) (h423 : SaysTrue Tryz.prog 423) (h419 : SaysTrue Tryz.prog 419) (h420 : SaysTrue Tryz.prog 420) (h415 : SaysTrue Tryz.prog 415) (h413 : SaysTrue Tryz.prog 413) (h411 : SaysTrue Tryz.prog 411) (h409 : SaysTrue Tryz.prog 409) (h407 : SaysTrue Tryz.prog 407) (h404 : SaysTrue Tryz.prog 404) (h401 : SaysTrue Tryz.prog 401) (h399 : SaysTrue Tryz.prog 399) (h396 : SaysTrue Tryz.prog 396) (h394 : SaysTrue Tryz.prog 394) (h391 : SaysTrue Tryz.prog 391) (h389 : SaysTrue Tryz.prog 389) (h386 : SaysTrue Tryz.prog 386) (h373 : SaysTrue Tryz.prog 373) (h344 : SaysTrue Tryz.prog 344) : SaysTrue Tryz.prog 306 :=
  says_of_yes (E := envOf Tryz.prog (tabOf [(95, 2), (94, 3), (45, 1), (341, 422576219), (340, 422576215), (339, 422576216), (212, 5438), (163, 171966621), (122, 156), (101, 2309), (100, 150994998), (449, 10), (437, 10), (438, 10), (423, 10), (419, 10), (420, 10), (415, 10), (413, 10), (411, 10), (409, 10), (407, 10), (404, 10), (401, 10), (399, 10), (396, 10), (394, 10), (391, 10), (389, 10), (386, 10), (373, 10), (344, 10)]) (tabOf sS) 403) (n := 3000) (envOf_list mixed_ok fields_ok names_ok held_ok (fun p hp => by
    simp only [List.mem_cons, List.not_mem_nil, or_false] at hp
    rcases hp with rfl | rfl | rfl | rfl | rfl | rfl | rfl | rfl | rfl | rfl | rfl | rfl | rfl | rfl | rfl | rfl | rfl | rfl | rfl | rfl | rfl | rfl | rfl | rfl | rfl | rfl | rfl | rfl | rfl | rfl | rfl | rfl
    · exact hk2
    · exact hk3
    · exact hk1
    · exact g341
    · exact g340
    · exact g339
    · exact g212
    · exact g163
    · exact g122
    · exact g101
    · exact g100
    · exact h449.hook
    · exact h437.hook
    · exact h438.hook
    · exact h423.hook
    · exact h419.hook
    · exact h420.hook
    · exact h415.hook
    · exact h413.hook
    · exact h411.hook
    · exact h409.hook
    · exact h407.hook
    · exact h404.hook
    · exact h401.hook
    · exact h399.hook
    · exact h396.hook
    · exact h394.hook
    · exact h391.hook
    · exact h389.hook
    · exact h386.hook
    · exact h373.hook
    · exact h344.hook
  )) (by kernel_rfl) (by kernel_rfl)
theorem Alaw22 (g341 : HookOK Tryz.prog 341 422576219) (g340 : HookOK Tryz.prog 340 422576215) (g339 : HookOK Tryz.prog 339 422576216) (g212 : HookOK Tryz.prog 212 5438) (g163 : HookOK Tryz.prog 163 171966621) (g122 : HookOK Tryz.prog 122 156) (g101 : HookOK Tryz.prog 101 2309) (g100 : HookOK Tryz.prog 100 150994998) (h306 : SaysTrue Tryz.prog 306) : SaysTrue Tryz.prog 245 :=
  says_of_yes (E := envOf Tryz.prog (tabOf [(95, 2), (94, 3), (45, 1), (341, 422576219), (340, 422576215), (339, 422576216), (212, 5438), (163, 171966621), (122, 156), (101, 2309), (100, 150994998), (306, 10)]) (tabOf sS) 403) (n := 3000) (envOf_list mixed_ok fields_ok names_ok held_ok (fun p hp => by
    simp only [List.mem_cons, List.not_mem_nil, or_false] at hp
    rcases hp with rfl | rfl | rfl | rfl | rfl | rfl | rfl | rfl | rfl | rfl | rfl | rfl
    · exact hk2
    · exact hk3
    · exact hk1
    · exact g341
    · exact g340
    · exact g339
    · exact g212
    · exact g163
    · exact g122
    · exact g101
    · exact g100
    · exact h306.hook
  )) (by kernel_rfl) (by kernel_rfl)
end Go.Proofs.YtbhafgjcmgobmaaGreatDoor
