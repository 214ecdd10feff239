/-
  The awake function of law01 says true, where those below say so. The awake function of law02 says true, where those below say so. The awake function of law03 says true, where those below say so. The awake function of law04 says true, where those below say so. The awake function of law05 says true, where those below say so. The awake function of law06 says true, where those below say so. The awake function of law07 says true, where those below say so. The awake function of law08 says true, where those below say so. The awake function of law09 says true, where those below say so. The awake function of law10 says true, where those below say so. The awake function of law11 says true, where those below say so. The awake function of law12 says true, where those below say so. The awake function of law13 says true, where those below say so.
-/
import Derived.Test.YtbhafgjcmgobmaaGreatDoorKAwA
set_option linter.all false

section
open Go.Eng
namespace Go.Proofs.YtbhafgjcmgobmaaGreatDoor
theorem alaw01 (g341 : HookOK Tryz.prog 341 422576219) (g340 : HookOK Tryz.prog 340 422576215) (g339 : HookOK Tryz.prog 339 422576216) (g212 : HookOK Tryz.prog 212 5438) (g163 : HookOK Tryz.prog 163 171966621) (g122 : HookOK Tryz.prog 122 156) (g101 : HookOK Tryz.prog 101 2309) (g100 : HookOK Tryz.prog 100 150994998)  : SaysTrue Tryz.prog 450 :=
  says_of_yes (E := envOf Tryz.prog (tabOf [(95, 2), (94, 3), (45, 1), (341, 422576219), (340, 422576215), (339, 422576216), (212, 5438), (163, 171966621), (122, 156), (101, 2309), (100, 150994998)]) (tabOf sS) 403) (n := 3000) (envOf_list mixed_ok fields_ok names_ok held_ok (fun p hp => by
    simp only [List.mem_cons, List.not_mem_nil, or_false] at hp
    rcases hp with rfl | rfl | rfl | rfl | rfl | rfl | rfl | rfl | rfl | rfl | rfl
    · exact hk2
    · exact hk3
    · exact hk1
    · exact g341
    · exact g340
    · exact g339
    · exact g212
    · exact g163
    · exact g122
    · exact g101
    · exact g100
  )) (by kernel_rfl) (by kernel_rfl)
theorem Alaw01 (g341 : HookOK Tryz.prog 341 422576219) (g340 : HookOK Tryz.prog 340 422576215) (g339 : HookOK Tryz.prog 339 422576216) (g212 : HookOK Tryz.prog 212 5438) (g163 : HookOK Tryz.prog 163 171966621) (g122 : HookOK Tryz.prog 122 156) (g101 : HookOK Tryz.prog 101 2309) (g100 : HookOK Tryz.prog 100 150994998) (h450 : SaysTrue Tryz.prog 450) : SaysTrue Tryz.prog 449 :=
  says_of_yes (E := envOf Tryz.prog (tabOf [(95, 2), (94, 3), (45, 1), (341, 422576219), (340, 422576215), (339, 422576216), (212, 5438), (163, 171966621), (122, 156), (101, 2309), (100, 150994998), (450, 10)]) (tabOf sS) 403) (n := 3000) (envOf_list mixed_ok fields_ok names_ok held_ok (fun p hp => by
    simp only [List.mem_cons, List.not_mem_nil, or_false] at hp
    rcases hp with rfl | rfl | rfl | rfl | rfl | rfl | rfl | rfl | rfl | rfl | rfl | rfl
    · exact hk2
    · exact hk3
    · exact hk1
    · exact g341
    · exact g340
    · exact g339
    · exact g212
    · exact g163
    · exact g122
    · exact g101
    · exact g100
    · exact h450.hook
  )) (by kernel_rfl) (by kernel_rfl)
end Go.Proofs.YtbhafgjcmgobmaaGreatDoor
end

section
open Go.Eng
namespace Go.Proofs.YtbhafgjcmgobmaaGreatDoor
theorem alaw02 (g341 : HookOK Tryz.prog 341 422576219) (g340 : HookOK Tryz.prog 340 422576215) (g339 : HookOK Tryz.prog 339 422576216) (g212 : HookOK Tryz.prog 212 5438) (g163 : HookOK Tryz.prog 163 171966621) (g122 : HookOK Tryz.prog 122 156) (g101 : HookOK Tryz.prog 101 2309) (g100 : HookOK Tryz.prog 100 150994998) (h449 : SaysTrue Tryz.prog 449) : SaysTrue Tryz.prog 440 :=
  says_of_yes (E := envOf Tryz.prog (tabOf [(95, 2), (94, 3), (45, 1), (341, 422576219), (340, 422576215), (339, 422576216), (212, 5438), (163, 171966621), (122, 156), (101, 2309), (100, 150994998), (449, 10)]) (tabOf sS) 403) (n := 3000) (envOf_list mixed_ok fields_ok names_ok held_ok (fun p hp => by
    simp only [List.mem_cons, List.not_mem_nil, or_false] at hp
    rcases hp with rfl | rfl | rfl | rfl | rfl | rfl | rfl | rfl | rfl | rfl | rfl | rfl
    · exact hk2
    · exact hk3
    · exact hk1
    · exact g341
    · exact g340
    · exact g339
    · exact g212
    · exact g163
    · exact g122
    · exact g101
    · exact g100
    · exact h449.hook
  )) (by kernel_rfl) (by kernel_rfl)
theorem Alaw02 (g341 : HookOK Tryz.prog 341 422576219) (g340 : HookOK Tryz.prog 340 422576215) (g339 : HookOK Tryz.prog 339 422576216) (g212 : HookOK Tryz.prog 212 5438) (g163 : HookOK Tryz.prog 163 171966621) (g122 : HookOK Tryz.prog 122 156) (g101 : HookOK Tryz.prog 101 2309) (g100 : HookOK Tryz.prog 100 150994998) (h440 : SaysTrue Tryz.prog 440) : SaysTrue Tryz.prog 437 :=
  says_of_yes (E := envOf Tryz.prog (tabOf [(95, 2), (94, 3), (45, 1), (341, 422576219), (340, 422576215), (339, 422576216), (212, 5438), (163, 171966621), (122, 156), (101, 2309), (100, 150994998), (440, 10)]) (tabOf sS) 403) (n := 3000) (envOf_list mixed_ok fields_ok names_ok held_ok (fun p hp => by
    simp only [List.mem_cons, List.not_mem_nil, or_false] at hp
    rcases hp with rfl | rfl | rfl | rfl | rfl | rfl | rfl | rfl | rfl | rfl | rfl | rfl
    · exact hk2
    · exact hk3
    · exact hk1
    · exact g341
    · exact g340
    · exact g339
    · exact g212
    · exact g163
    · exact g122
    · exact g101
    · exact g100
    · exact h440.hook
  )) (by kernel_rfl) (by kernel_rfl)
end Go.Proofs.YtbhafgjcmgobmaaGreatDoor
end

section
open Go.Eng
namespace Go.Proofs.YtbhafgjcmgobmaaGreatDoor
theorem alaw03 (g341 : HookOK Tryz.prog 341 422576219) (g340 : HookOK Tryz.prog 340 422576215) (g339 : HookOK Tryz.prog 339 422576216) (g212 : HookOK Tryz.prog 212 5438) (g163 : HookOK Tryz.prog 163 171966621) (g122 : HookOK Tryz.prog 122 156) (g101 : HookOK Tryz.prog 101 2309) (g100 : HookOK Tryz.prog 100 150994998) (h449 : SaysTrue Tryz.prog 449) (h437 : SaysTrue Tryz.prog 437) : SaysTrue Tryz.prog 441 :=
  says_of_yes (E := envOf Tryz.prog (tabOf [(95, 2), (94, 3), (45, 1), (341, 422576219), (340, 422576215), (339, 422576216), (212, 5438), (163, 171966621), (122, 156), (101, 2309), (100, 150994998), (449, 10), (437, 10)]) (tabOf sS) 403) (n := 3000) (envOf_list mixed_ok fields_ok names_ok held_ok (fun p hp => by
    simp only [List.mem_cons, List.not_mem_nil, or_false] at hp
    rcases hp with rfl | rfl | rfl | rfl | rfl | rfl | rfl | rfl | rfl | rfl | rfl | rfl | rfl
    · exact hk2
    · exact hk3
    · exact hk1
    · exact g341
    · exact g340
    · exact g339
    · exact g212
    · exact g163
    · exact g122
    · exact g101
    · exact g100
    · exact h449.hook
    · exact h437.hook
  )) (by kernel_rfl) (by kernel_rfl)
theorem Alaw03 (g341 : HookOK Tryz.prog 341 422576219) (g340 : HookOK Tryz.prog 340 422576215) (g339 : HookOK Tryz.prog 339 422576216) (g212 : HookOK Tryz.prog 212 5438) (g163 : HookOK Tryz.prog 163 171966621) (g122 : HookOK Tryz.prog 122 156) (g101 : HookOK Tryz.prog 101 2309) (g100 : HookOK Tryz.prog 100 150994998) (h441 : SaysTrue Tryz.prog 441) : SaysTrue Tryz.prog 438 :=
  says_of_yes (E := envOf Tryz.prog (tabOf [(95, 2), (94, 3), (45, 1), (341, 422576219), (340, 422576215), (339, 422576216), (212, 5438), (163, 171966621), (122, 156), (101, 2309), (100, 150994998), (441, 10)]) (tabOf sS) 403) (n := 3000) (envOf_list mixed_ok fields_ok names_ok held_ok (fun p hp => by
    simp only [List.mem_cons, List.not_mem_nil, or_false] at hp
    rcases hp with rfl | rfl | rfl | rfl | rfl | rfl | rfl | rfl | rfl | rfl | rfl | rfl
    · exact hk2
    · exact hk3
    · exact hk1
    · exact g341
    · exact g340
    · exact g339
    · exact g212
    · exact g163
    · exact g122
    · exact g101
    · exact g100
    · exact h441.hook
  )) (by kernel_rfl) (by kernel_rfl)
end Go.Proofs.YtbhafgjcmgobmaaGreatDoor
end

section
open Go.Eng
namespace Go.Proofs.YtbhafgjcmgobmaaGreatDoor
theorem alaw04 (g341 : HookOK Tryz.prog 341 422576219) (g340 : HookOK Tryz.prog 340 422576215) (g339 : HookOK Tryz.prog 339 422576216) (g212 : HookOK Tryz.prog 212 5438) (g163 : HookOK Tryz.prog 163 171966621) (g122 : HookOK Tryz.prog 122 156) (g101 : HookOK Tryz.prog 101 2309) (g100 : HookOK Tryz.prog 100 150994998) (h449 : SaysTrue Tryz.prog 449) (h437 : SaysTrue Tryz.prog 437) (h438 : SaysTrue Tryz.prog 438) : SaysTrue Tryz.prog 428 :=
  says_of_yes (E := envOf Tryz.prog (tabOf [(95, 2), (94, 3), (45, 1), (341, 422576219), (340, 422576215), (339, 422576216), (212, 5438), (163, 171966621), (122, 156), (101, 2309), (100, 150994998), (449, 10), (437, 10), (438, 10)]) (tabOf sS) 403) (n := 3000) (envOf_list mixed_ok fields_ok names_ok held_ok (fun p hp => by
    simp only [List.mem_cons, List.not_mem_nil, or_false] at hp
    rcases hp with rfl | rfl | rfl | rfl | rfl | rfl | rfl | rfl | rfl | rfl | rfl | rfl | rfl | rfl
    · exact hk2
    · exact hk3
    · exact hk1
    · exact g341
    · exact g340
    · exact g339
    · exact g212
    · exact g163
    · exact g122
    · exact g101
    · exact g100
    · exact h449.hook
    · exact h437.hook
    · exact h438.hook
  )) (by kernel_rfl) (by kernel_rfl)
theorem Alaw04 (g341 : HookOK Tryz.prog 341 422576219) (g340 : HookOK Tryz.prog 340 422576215) (g339 : HookOK Tryz.prog 339 422576216) (g212 : HookOK Tryz.prog 212 5438) (g163 : HookOK Tryz.prog 163 171966621) (g122 : HookOK Tryz.prog 122 156) (g101 : HookOK Tryz.prog 101 2309) (g100 : HookOK Tryz.prog 100 150994998) (h428 : SaysTrue Tryz.prog 428) : SaysTrue Tryz.prog 423 :=
  says_of_yes (E := envOf Tryz.prog (tabOf [(95, 2), (94, 3), (45, 1), (341, 422576219), (340, 422576215), (339, 422576216), (212, 5438), (163, 171966621), (122, 156), (101, 2309), (100, 150994998), (428, 10)]) (tabOf sS) 403) (n := 3000) (envOf_list mixed_ok fields_ok names_ok held_ok (fun p hp => by
    simp only [List.mem_cons, List.not_mem_nil, or_false] at hp
    rcases hp with rfl | rfl | rfl | rfl | rfl | rfl | rfl | rfl | rfl | rfl | rfl | rfl
    · exact hk2
    · exact hk3
    · exact hk1
    · exact g341
    · exact g340
    · exact g339
    · exact g212
    · exact g163
    · exact g122
    · exact g101
    · exact g100
    · exact h428.hook
  )) (by kernel_rfl) (by kernel_rfl)
end Go.Proofs.YtbhafgjcmgobmaaGreatDoor
end

section
open Go.Eng
namespace Go.Proofs.YtbhafgjcmgobmaaGreatDoor
theorem alaw05 (g341 : HookOK Tryz.prog 341 422576219) (g340 : HookOK Tryz.prog 340 422576215) (g339 : HookOK Tryz.prog 339 422576216) (g212 : HookOK Tryz.prog 212 5438) (g163 : HookOK Tryz.prog 163 171966621) (g122 : HookOK Tryz.prog 122 156) (g101 : HookOK Tryz.prog 101 2309) (g100 : HookOK Tryz.prog 100 150994998) (h449 : SaysTrue Tryz.prog 449) (h437 : SaysTrue Tryz.prog 437) (h438 : SaysTrue Tryz.prog 438) (h423 : SaysTrue Tryz.prog 423) : SaysTrue Tryz.prog 421 :=
  says_of_yes (E := envOf Tryz.prog (tabOf [(95, 2), (94, 3), (45, 1), (341, 422576219), (340, 422576215), (339, 422576216), (212, 5438), (163, 171966621), (122, 156), (101, 2309), (100, 150994998), (449, 10), (437, 10), (438, 10), (423, 10)]) (tabOf sS) 403) (n := 3000) (envOf_list mixed_ok fields_ok names_ok held_ok (fun p hp => by
    simp only [List.mem_cons, List.not_mem_nil, or_false] at hp
    rcases hp with rfl | rfl | rfl | rfl | rfl | rfl | rfl | rfl | rfl | rfl | rfl | rfl | rfl | rfl | rfl
    · exact hk2
    · exact hk3
    · exact hk1
    · exact g341
    · exact g340
    · exact g339
    · exact g212
    · exact g163
    · exact g122
    · exact g101
    · exact g100
    · exact h449.hook
    · exact h437.hook
    · exact h438.hook
    · exact h423.hook
  )) (by kernel_rfl) (by kernel_rfl)
theorem Alaw05 (g341 : HookOK Tryz.prog 341 422576219) (g340 : HookOK Tryz.prog 340 422576215) (g339 : HookOK Tryz.prog 339 422576216) (g212 : HookOK Tryz.prog 212 5438) (g163 : HookOK Tryz.prog 163 171966621) (g122 : HookOK Tryz.prog 122 156) (g101 : HookOK Tryz.prog 101 2309) (g100 : HookOK Tryz.prog 100 150994998) (h421 : SaysTrue Tryz.prog 421) : SaysTrue Tryz.prog 419 :=
  says_of_yes (E := envOf Tryz.prog (tabOf [(95, 2), (94, 3), (45, 1), (341, 422576219), (340, 422576215), (339, 422576216), (212, 5438), (163, 171966621), (122, 156), (101, 2309), (100, 150994998), (421, 10)]) (tabOf sS) 403) (n := 3000) (envOf_list mixed_ok fields_ok names_ok held_ok (fun p hp => by
    simp only [List.mem_cons, List.not_mem_nil, or_false] at hp
    rcases hp with rfl | rfl | rfl | rfl | rfl | rfl | rfl | rfl | rfl | rfl | rfl | rfl
    · exact hk2
    · exact hk3
    · exact hk1
    · exact g341
    · exact g340
    · exact g339
    · exact g212
    · exact g163
    · exact g122
    · exact g101
    · exact g100
    · exact h421.hook
  )) (by kernel_rfl) (by kernel_rfl)
end Go.Proofs.YtbhafgjcmgobmaaGreatDoor
end

section
open Go.Eng
namespace Go.Proofs.YtbhafgjcmgobmaaGreatDoor
theorem alaw06 (g341 : HookOK Tryz.prog 341 422576219) (g340 : HookOK Tryz.prog 340 422576215) (g339 : HookOK Tryz.prog 339 422576216) (g212 : HookOK Tryz.prog 212 5438) (g163 : HookOK Tryz.prog 163 171966621) (g122 : HookOK Tryz.prog 122 156) (g101 : HookOK Tryz.prog 101 2309) (g100 : HookOK Tryz.prog 100 150994998) (h449 : SaysTrue Tryz.prog 449) (h437 : SaysTrue Tryz.prog 437) (h438 : SaysTrue Tryz.prog 438) (h423 : SaysTrue Tryz.prog 423) (h419 : SaysTrue Tryz.prog 419) : SaysTrue Tryz.prog 422 :=
  says_of_yes (E := envOf Tryz.prog (tabOf [(95, 2), (94, 3), (45, 1), (341, 422576219), (340, 422576215), (339, 422576216), (212, 5438), (163, 171966621), (122, 156), (101, 2309), (100, 150994998), (449, 10), (437, 10), (438, 10), (423, 10), (419, 10)]) (tabOf sS) 403) (n := 3000) (envOf_list mixed_ok fields_ok names_ok held_ok (fun p hp => by
    simp only [List.mem_cons, List.not_mem_nil, or_false] at hp
    rcases hp with rfl | rfl | rfl | rfl | rfl | rfl | rfl | rfl | rfl | rfl | rfl | rfl | rfl | rfl | rfl | rfl
    · exact hk2
    · exact hk3
    · exact hk1
    · exact g341
    · exact g340
    · exact g339
    · exact g212
    · exact g163
    · exact g122
    · exact g101
    · exact g100
    · exact h449.hook
    · exact h437.hook
    · exact h438.hook
    · exact h423.hook
    · exact h419.hook
  )) (by kernel_rfl) (by kernel_rfl)
theorem Alaw06 (g341 : HookOK Tryz.prog 341 422576219) (g340 : HookOK Tryz.prog 340 422576215) (g339 : HookOK Tryz.prog 339 422576216) (g212 : HookOK Tryz.prog 212 5438) (g163 : HookOK Tryz.prog 163 171966621) (g122 : HookOK Tryz.prog 122 156) (g101 : HookOK Tryz.prog 101 2309) (g100 : HookOK Tryz.prog 100 150994998) (h422 : SaysTrue Tryz.prog 422) : SaysTrue Tryz.prog 420 :=
  says_of_yes (E := envOf Tryz.prog (tabOf [(95, 2), (94, 3), (45, 1), (341, 422576219), (340, 422576215), (339, 422576216), (212, 5438), (163, 171966621), (122, 156), (101, 2309), (100, 150994998), (422, 10)]) (tabOf sS) 403) (n := 3000) (envOf_list mixed_ok fields_ok names_ok held_ok (fun p hp => by
    simp only [List.mem_cons, List.not_mem_nil, or_false] at hp
    rcases hp with rfl | rfl | rfl | rfl | rfl | rfl | rfl | rfl | rfl | rfl | rfl | rfl
    · exact hk2
    · exact hk3
    · exact hk1
    · exact g341
    · exact g340
    · exact g339
    · exact g212
    · exact g163
    · exact g122
    · exact g101
    · exact g100
    · exact h422.hook
  )) (by kernel_rfl) (by kernel_rfl)
end Go.Proofs.YtbhafgjcmgobmaaGreatDoor
end

section
open Go.Eng
namespace Go.Proofs.YtbhafgjcmgobmaaGreatDoor
theorem alaw07 (g341 : HookOK Tryz.prog 341 422576219) (g340 : HookOK Tryz.prog 340 422576215) (g339 : HookOK Tryz.prog 339 422576216) (g212 : HookOK Tryz.prog 212 5438) (g163 : HookOK Tryz.prog 163 171966621) (g122 : HookOK Tryz.prog 122 156) (g101 : HookOK Tryz.prog 101 2309) (g100 : HookOK Tryz.prog 100 150994998) (h449 : SaysTrue Tryz.prog 449) (h437 : SaysTrue Tryz.prog 437) (h438 : SaysTrue Tryz.prog 438) (h423 : SaysTrue Tryz.prog 423) (h419 : SaysTrue Tryz.prog 419) (h420 : SaysTrue Tryz.prog 420) : SaysTrue Tryz.prog 416 :=
  says_of_yes (E := envOf Tryz.prog (tabOf [(95, 2), (94, 3), (45, 1), (341, 422576219), (340, 422576215), (339, 422576216), (212, 5438), (163, 171966621), (122, 156), (101, 2309), (100, 150994998), (449, 10), (437, 10), (438, 10), (423, 10), (419, 10), (420, 10)]) (tabOf sS) 403) (n := 3000) (envOf_list mixed_ok fields_ok names_ok held_ok (fun p hp => by
    simp only [List.mem_cons, List.not_mem_nil, or_false] at hp
    rcases hp with rfl | rfl | rfl | rfl | rfl | rfl | rfl | rfl | rfl | rfl | rfl | rfl | rfl | rfl | rfl | rfl | rfl
    · exact hk2
    · exact hk3
    · exact hk1
    · exact g341
    · exact g340
    · exact g339
    · exact g212
    · exact g163
    · exact g122
    · exact g101
    · exact g100
    · exact h449.hook
    · exact h437.hook
    · exact h438.hook
    · exact h423.hook
    · exact h419.hook
    · exact h420.hook
  )) (by kernel_rfl) (by kernel_rfl)
theorem Alaw07 (g341 : HookOK Tryz.prog 341 422576219) (g340 : HookOK Tryz.prog 340 422576215) (g339 : HookOK Tryz.prog 339 422576216) (g212 : HookOK Tryz.prog 212 5438) (g163 : HookOK Tryz.prog 163 171966621) (g122 : HookOK Tryz.prog 122 156) (g101 : HookOK Tryz.prog 101 2309) (g100 : HookOK Tryz.prog 100 150994998) (h416 : SaysTrue Tryz.prog 416) : SaysTrue Tryz.prog 415 :=
  says_of_yes (E := envOf Tryz.prog (tabOf [(95, 2), (94, 3), (45, 1), (341, 422576219), (340, 422576215), (339, 422576216), (212, 5438), (163, 171966621), (122, 156), (101, 2309), (100, 150994998), (416, 10)]) (tabOf sS) 403) (n := 3000) (envOf_list mixed_ok fields_ok names_ok held_ok (fun p hp => by
    simp only [List.mem_cons, List.not_mem_nil, or_false] at hp
    rcases hp with rfl | rfl | rfl | rfl | rfl | rfl | rfl | rfl | rfl | rfl | rfl | rfl
    · exact hk2
    · exact hk3
    · exact hk1
    · exact g341
    · exact g340
    · exact g339
    · exact g212
    · exact g163
    · exact g122
    · exact g101
    · exact g100
    · exact h416.hook
  )) (by kernel_rfl) (by kernel_rfl)
end Go.Proofs.YtbhafgjcmgobmaaGreatDoor
end

section
open Go.Eng
namespace Go.Proofs.YtbhafgjcmgobmaaGreatDoor
theorem alaw08 (g341 : HookOK Tryz.prog 341 422576219) (g340 : HookOK Tryz.prog 340 422576215) (g339 : HookOK Tryz.prog 339 422576216) (g212 : HookOK Tryz.prog 212 5438) (g163 : HookOK Tryz.prog 163 171966621) (g122 : HookOK Tryz.prog 122 156) (g101 : HookOK Tryz.prog 101 2309) (g100 : HookOK Tryz.prog 100 150994998) (h449 : SaysTrue Tryz.prog 449) (h437 : SaysTrue Tryz.prog 437) (h438 : SaysTrue Tryz.prog 438) (h423 : SaysTrue Tryz.prog 423) (h419 : SaysTrue Tryz.prog 419) (h420 : SaysTrue Tryz.prog 420) (h415 : SaysTrue Tryz.prog 415) : SaysTrue Tryz.prog 414 :=
  says_of_yes (E := envOf Tryz.prog (tabOf [(95, 2), (94, 3), (45, 1), (341, 422576219), (340, 422576215), (339, 422576216), (212, 5438), (163, 171966621), (122, 156), (101, 2309), (100, 150994998), (449, 10), (437, 10), (438, 10), (423, 10), (419, 10), (420, 10), (415, 10)]) (tabOf sS) 403) (n := 3000) (envOf_list mixed_ok fields_ok names_ok held_ok (fun p hp => by
    simp only [List.mem_cons, List.not_mem_nil, or_false] at hp
    rcases hp with rfl | rfl | rfl | rfl | rfl | rfl | rfl | rfl | rfl | rfl | rfl | rfl | rfl | rfl | rfl | rfl | rfl | rfl
    · exact hk2
    · exact hk3
    · exact hk1
    · exact g341
    · exact g340
    · exact g339
    · exact g212
    · exact g163
    · exact g122
    · exact g101
    · exact g100
    · exact h449.hook
    · exact h437.hook
    · exact h438.hook
    · exact h423.hook
    · exact h419.hook
    · exact h420.hook
    · exact h415.hook
  )) (by kernel_rfl) (by kernel_rfl)
theorem Alaw08 (g341 : HookOK Tryz.prog 341 422576219) (g340 : HookOK Tryz.prog 340 422576215) (g339 : HookOK Tryz.prog 339 422576216) (g212 : HookOK Tryz.prog 212 5438) (g163 : HookOK Tryz.prog 163 171966621) (g122 : HookOK Tryz.prog 122 156) (g101 : HookOK Tryz.prog 101 2309) (g100 : HookOK Tryz.prog 100 150994998) (h414 : SaysTrue Tryz.prog 414) : SaysTrue Tryz.prog 413 :=
  says_of_yes (E := envOf Tryz.prog (tabOf [(95, 2), (94, 3), (45, 1), (341, 422576219), (340, 422576215), (339, 422576216), (212, 5438), (163, 171966621), (122, 156), (101, 2309), (100, 150994998), (414, 10)]) (tabOf sS) 403) (n := 3000) (envOf_list mixed_ok fields_ok names_ok held_ok (fun p hp => by
    simp only [List.mem_cons, List.not_mem_nil, or_false] at hp
    rcases hp with rfl | rfl | rfl | rfl | rfl | rfl | rfl | rfl | rfl | rfl | rfl | rfl
    · exact hk2
    · exact hk3
    · exact hk1
    · exact g341
    · exact g340
    · exact g339
    · exact g212
    · exact g163
    · exact g122
    · exact g101
    · exact g100
    · exact h414.hook
  )) (by kernel_rfl) (by kernel_rfl)
end Go.Proofs.YtbhafgjcmgobmaaGreatDoor
end

section
open Go.Eng
namespace Go.Proofs.YtbhafgjcmgobmaaGreatDoor
theorem alaw09 (g341 : HookOK Tryz.prog 341 422576219) (g340 : HookOK Tryz.prog 340 422576215) (g339 : HookOK Tryz.prog 339 422576216) (g212 : HookOK Tryz.prog 212 5438) (g163 : HookOK Tryz.prog 163 171966621) (g122 : HookOK Tryz.prog 122 156) (g101 : HookOK Tryz.prog 101 2309) (g100 : HookOK Tryz.prog 100 150994998) (h449 : SaysTrue Tryz.prog 449) (h437 : SaysTrue Tryz.prog 437) (h438 : SaysTrue Tryz.prog 438) (h423 : SaysTrue Tryz.prog 423) (h419 : SaysTrue Tryz.prog 419) (h420 : SaysTrue Tryz.prog 420) (h415 : SaysTrue Tryz.prog 415) (h413 : SaysTrue Tryz.prog 413) : SaysTrue Tryz.prog 412 :=
  says_of_yes (E := envOf Tryz.prog (tabOf [(95, 2), (94, 3), (45, 1), (341, 422576219), (340, 422576215), (339, 422576216), (212, 5438), (163, 171966621), (122, 156), (101, 2309), (100, 150994998), (449, 10), (437, 10), (438, 10), (423, 10), (419, 10), (420, 10), (415, 10), (413, 10)]) (tabOf sS) 403) (n := 3000) (envOf_list mixed_ok fields_ok names_ok held_ok (fun p hp => by
    simp only [List.mem_cons, List.not_mem_nil, or_false] at hp
    rcases hp with rfl | rfl | rfl | rfl | rfl | rfl | rfl | rfl | rfl | rfl | rfl | rfl | rfl | rfl | rfl | rfl | rfl | rfl | rfl
    · exact hk2
    · exact hk3
    · exact hk1
    · exact g341
    · exact g340
    · exact g339
    · exact g212
    · exact g163
    · exact g122
    · exact g101
    · exact g100
    · exact h449.hook
    · exact h437.hook
    · exact h438.hook
    · exact h423.hook
    · exact h419.hook
    · exact h420.hook
    · exact h415.hook
    · exact h413.hook
  )) (by kernel_rfl) (by kernel_rfl)
theorem Alaw09 (g341 : HookOK Tryz.prog 341 422576219) (g340 : HookOK Tryz.prog 340 422576215) (g339 : HookOK Tryz.prog 339 422576216) (g212 : HookOK Tryz.prog 212 5438) (g163 : HookOK Tryz.prog 163 171966621) (g122 : HookOK Tryz.prog 122 156) (g101 : HookOK Tryz.prog 101 2309) (g100 : HookOK Tryz.prog 100 150994998) (h412 : SaysTrue Tryz.prog 412) : SaysTrue Tryz.prog 411 :=
  says_of_yes (E := envOf Tryz.prog (tabOf [(95, 2), (94, 3), (45, 1), (341, 422576219), (340, 422576215), (339, 422576216), (212, 5438), (163, 171966621), (122, 156), (101, 2309), (100, 150994998), (412, 10)]) (tabOf sS) 403) (n := 3000) (envOf_list mixed_ok fields_ok names_ok held_ok (fun p hp => by
    simp only [List.mem_cons, List.not_mem_nil, or_false] at hp
    rcases hp with rfl | rfl | rfl | rfl | rfl | rfl | rfl | rfl | rfl | rfl | rfl | rfl
    · exact hk2
    · exact hk3
    · exact hk1
    · exact g341
    · exact g340
    · exact g339
    · exact g212
    · exact g163
    · exact g122
    · exact g101
    · exact g100
    · exact h412.hook
  )) (by kernel_rfl) (by kernel_rfl)
end Go.Proofs.YtbhafgjcmgobmaaGreatDoor
end

section
open Go.Eng
namespace Go.Proofs.YtbhafgjcmgobmaaGreatDoor
theorem alaw10 (g341 : HookOK Tryz.prog 341 422576219) (g340 : HookOK Tryz.prog 340 422576215) (g339 : HookOK Tryz.prog 339 422576216) (g212 : HookOK Tryz.prog 212 5438) (g163 : HookOK Tryz.prog 163 171966621) (g122 : HookOK Tryz.prog 122 156) (g101 : HookOK Tryz.prog 101 2309) (g100 : HookOK Tryz.prog 100 150994998) (h449 : SaysTrue Tryz.prog 449) (h437 : SaysTrue Tryz.prog 437) (h438 : SaysTrue Tryz.prog 438) (h423 : SaysTrue Tryz.prog 423) (h419 : SaysTrue Tryz.prog 419) (h420 : SaysTrue Tryz.prog 420) (h415 : SaysTrue Tryz.prog 415) (h413 : SaysTrue Tryz.prog 413) (h411 : SaysTrue Tryz.prog 411) : SaysTrue Tryz.prog 410 :=
  says_of_yes (E := envOf Tryz.prog (tabOf [(95, 2), (94, 3), (45, 1), (341, 422576219), (340, 422576215), (339, 422576216), (212, 5438), (163, 171966621), (122, 156), (101, 2309), (100, 150994998), (449, 10), (437, 10), (438, 10), (423, 10), (419, 10), (420, 10), (415, 10), (413, 10), (411, 10)]) (tabOf sS) 403) (n := 3000) (envOf_list mixed_ok fields_ok names_ok held_ok (fun p hp => by
    simp only [List.mem_cons, List.not_mem_nil, or_false] at hp
    rcases hp with rfl | rfl | rfl | rfl | rfl | rfl | rfl | rfl | rfl | rfl | rfl | rfl | rfl | rfl | rfl | rfl | rfl | rfl | rfl | rfl
    · exact hk2
    · exact hk3
    · exact hk1
    · exact g341
    · exact g340
    · exact g339
    · exact g212
    · exact g163
    · exact g122
    · exact g101
    · exact g100
    · exact h449.hook
    · exact h437.hook
    · exact h438.hook
    · exact h423.hook
    · exact h419.hook
    · exact h420.hook
    · exact h415.hook
    · exact h413.hook
    · exact h411.hook
  )) (by kernel_rfl) (by kernel_rfl)
theorem Alaw10 (g341 : HookOK Tryz.prog 341 422576219) (g340 : HookOK Tryz.prog 340 422576215) (g339 : HookOK Tryz.prog 339 422576216) (g212 : HookOK Tryz.prog 212 5438) (g163 : HookOK Tryz.prog 163 171966621) (g122 : HookOK Tryz.prog 122 156) (g101 : HookOK Tryz.prog 101 2309) (g100 : HookOK Tryz.prog 100 150994998) (h410 : SaysTrue Tryz.prog 410) : SaysTrue Tryz.prog 409 :=
  says_of_yes (E := envOf Tryz.prog (tabOf [(95, 2), (94, 3), (45, 1), (341, 422576219), (340, 422576215), (339, 422576216), (212, 5438), (163, 171966621), (122, 156), (101, 2309), (100, 150994998), (410, 10)]) (tabOf sS) 403) (n := 3000) (envOf_list mixed_ok fields_ok names_ok held_ok (fun p hp => by
    simp only [List.mem_cons, List.not_mem_nil, or_false] at hp
    rcases hp with rfl | rfl | rfl | rfl | rfl | rfl | rfl | rfl | rfl | rfl | rfl | rfl
    · exact hk2
    · exact hk3
    · exact hk1
    · exact g341
    · exact g340
    · exact g339
    · exact g212
    · exact g163
    · exact g122
    · exact g101
    · exact g100
    · exact h410.hook
  )) (by kernel_rfl) (by kernel_rfl)
end Go.Proofs.YtbhafgjcmgobmaaGreatDoor
end

section
open Go.Eng
namespace Go.Proofs.YtbhafgjcmgobmaaGreatDoor
theorem alaw11 (g341 : HookOK Tryz.prog 341 422576219) (g340 : HookOK Tryz.prog 340 422576215) (g339 : HookOK Tryz.prog 339 422576216) (g212 : HookOK Tryz.prog 212 5438) (g163 : HookOK Tryz.prog 163 171966621) (g122 : HookOK Tryz.prog 122 156) (g101 : HookOK Tryz.prog 101 2309) (g100 : HookOK Tryz.prog 100 150994998) (h449 : SaysTrue Tryz.prog 449) (h437 : SaysTrue Tryz.prog 437) (h438 : SaysTrue Tryz.prog 438) (h423 : SaysTrue Tryz.prog 423) (h419 : SaysTrue Tryz.prog 419) (h420 : SaysTrue Tryz.prog 420) (h415 : SaysTrue Tryz.prog 415) (h413 : SaysTrue Tryz.prog 413) (h411 : SaysTrue Tryz.prog 411) (h409 : SaysTrue Tryz.prog 409) : SaysTrue Tryz.prog 408 :=
  says_of_yes (E := envOf Tryz.prog (tabOf [(95, 2), (94, 3), (45, 1), (341, 422576219), (340, 422576215), (339, 422576216), (212, 5438), (163, 171966621), (122, 156), (101, 2309), (100, 150994998), (449, 10), (437, 10), (438, 10), (423, 10), (419, 10), (420, 10), (415, 10), (413, 10), (411, 10), (409, 10)]) (tabOf sS) 403) (n := 3000) (envOf_list mixed_ok fields_ok names_ok held_ok (fun p hp => by
    simp only [List.mem_cons, List.not_mem_nil, or_false] at hp
    rcases hp with rfl | rfl | rfl | rfl | rfl | rfl | rfl | rfl | rfl | rfl | rfl | rfl | rfl | rfl | rfl | rfl | rfl | rfl | rfl | rfl | rfl
    · exact hk2
    · exact hk3
    · exact hk1
    · exact g341
    · exact g340
    · exact g339
    · exact g212
    · exact g163
    · exact g122
    · exact g101
    · exact g100
    · exact h449.hook
    · exact h437.hook
    · exact h438.hook
    · exact h423.hook
    · exact h419.hook
    · exact h420.hook
    · exact h415.hook
    · exact h413.hook
    · exact h411.hook
    · exact h409.hook
  )) (by kernel_rfl) (by kernel_rfl)
theorem Alaw11 (g341 : HookOK Tryz.prog 341 422576219) (g340 : HookOK Tryz.prog 340 422576215) (g339 : HookOK Tryz.prog 339 422576216) (g212 : HookOK Tryz.prog 212 5438) (g163 : HookOK Tryz.prog 163 171966621) (g122 : HookOK Tryz.prog 122 156) (g101 : HookOK Tryz.prog 101 2309) (g100 : HookOK Tryz.prog 100 150994998) (h408 : SaysTrue Tryz.prog 408) : SaysTrue Tryz.prog 407 :=
  says_of_yes (E := envOf Tryz.prog (tabOf [(95, 2), (94, 3), (45, 1), (341, 422576219), (340, 422576215), (339, 422576216), (212, 5438), (163, 171966621), (122, 156), (101, 2309), (100, 150994998), (408, 10)]) (tabOf sS) 403) (n := 3000) (envOf_list mixed_ok fields_ok names_ok held_ok (fun p hp => by
    simp only [List.mem_cons, List.not_mem_nil, or_false] at hp
    rcases hp with rfl | rfl | rfl | rfl | rfl | rfl | rfl | rfl | rfl | rfl | rfl | rfl
    · exact hk2
    · exact hk3
    · exact hk1
    · exact g341
    · exact g340
    · exact g339
    · exact g212
    · exact g163
    · exact g122
    · exact g101
    · exact g100
    · exact h408.hook
  )) (by kernel_rfl) (by kernel_rfl)
end Go.Proofs.YtbhafgjcmgobmaaGreatDoor
end

section
open Go.Eng
namespace Go.Proofs.YtbhafgjcmgobmaaGreatDoor
theorem alaw12 (g341 : HookOK Tryz.prog 341 422576219) (g340 : HookOK Tryz.prog 340 422576215) (g339 : HookOK Tryz.prog 339 422576216) (g212 : HookOK Tryz.prog 212 5438) (g163 : HookOK Tryz.prog 163 171966621) (g122 : HookOK Tryz.prog 122 156) (g101 : HookOK Tryz.prog 101 2309) (g100 : HookOK Tryz.prog 100 150994998) (h449 : SaysTrue Tryz.prog 449) (h437 : SaysTrue Tryz.prog 437) (h438 : SaysTrue Tryz.prog 438) (h423 : SaysTrue Tryz.prog 423) (h419 : SaysTrue Tryz.prog 419) (h420 : SaysTrue Tryz.prog 420) (h415 : SaysTrue Tryz.prog 415) (h413 : SaysTrue Tryz.prog 413) (h411 : SaysTrue Tryz.prog 411) (h409 : SaysTrue Tryz.prog 409) (h407 : SaysTrue Tryz.prog 407) : SaysTrue Tryz.prog 406 :=
  says_of_yes (E := envOf Tryz.prog (tabOf [(95, 2), (94, 3), (45, 1), (341, 422576219), (340, 422576215), (339, 422576216), (212, 5438), (163, 171966621), (122, 156), (101, 2309), (100, 150994998), (449, 10), (437, 10), (438, 10), (423, 10), (419, 10), (420, 10), (415, 10), (413, 10), (411, 10), (409, 10), (407, 10)]) (tabOf sS) 403) (n := 3000) (envOf_list mixed_ok fields_ok names_ok held_ok (fun p hp => by
    simp only [List.mem_cons, List.not_mem_nil, or_false] at hp
    rcases hp with rfl | rfl | rfl | rfl | rfl | rfl | rfl | rfl | rfl | rfl | rfl | rfl | rfl | rfl | rfl | rfl | rfl | rfl | rfl | rfl | rfl | rfl
    · exact hk2
    · exact hk3
    · exact hk1
    · exact g341
    · exact g340
    · exact g339
    · exact g212
    · exact g163
    · exact g122
    · exact g101
    · exact g100
    · exact h449.hook
    · exact h437.hook
    · exact h438.hook
    · exact h423.hook
    · exact h419.hook
    · exact h420.hook
    · exact h415.hook
    · exact h413.hook
    · exact h411.hook
    · exact h409.hook
    · exact h407.hook
  )) (by kernel_rfl) (by kernel_rfl)
theorem Alaw12 (g341 : HookOK Tryz.prog 341 422576219) (g340 : HookOK Tryz.prog 340 422576215) (g339 : HookOK Tryz.prog 339 422576216) (g212 : HookOK Tryz.prog 212 5438) (g163 : HookOK Tryz.prog 163 171966621) (g122 : HookOK Tryz.prog 122 156) (g101 : HookOK Tryz.prog 101 2309) (g100 : HookOK Tryz.prog 100 150994998) (h406 : SaysTrue Tryz.prog 406) : SaysTrue Tryz.prog 404 :=
  says_of_yes (E := envOf Tryz.prog (tabOf [(95, 2), (94, 3), (45, 1), (341, 422576219), (340, 422576215), (339, 422576216), (212, 5438), (163, 171966621), (122, 156), (101, 2309), (100, 150994998), (406, 10)]) (tabOf sS) 403) (n := 3000) (envOf_list mixed_ok fields_ok names_ok held_ok (fun p hp => by
    simp only [List.mem_cons, List.not_mem_nil, or_false] at hp
    rcases hp with rfl | rfl | rfl | rfl | rfl | rfl | rfl | rfl | rfl | rfl | rfl | rfl
    · exact hk2
    · exact hk3
    · exact hk1
    · exact g341
    · exact g340
    · exact g339
    · exact g212
    · exact g163
    · exact g122
    · exact g101
    · exact g100
    · exact h406.hook
  )) (by kernel_rfl) (by kernel_rfl)
end Go.Proofs.YtbhafgjcmgobmaaGreatDoor
end

section
open Go.Eng
namespace Go.Proofs.YtbhafgjcmgobmaaGreatDoor
theorem alaw13 (g341 : HookOK Tryz.prog 341 422576219) (g340 : HookOK Tryz.prog 340 422576215) (g339 : HookOK Tryz.prog 339 422576216) (g212 : HookOK Tryz.prog 212 5438) (g163 : HookOK Tryz.prog 163 171966621) (g122 : HookOK Tryz.prog 122 156) (g101 : HookOK Tryz.prog 101 2309) (g100 : HookOK Tryz.prog 100 150994998) (h449 : SaysTrue Tryz.prog 449) (h437 : SaysTrue Tryz.prog 437) (h438 : SaysTrue Tryz.prog 438) (h423 : SaysTrue Tryz.prog 423) (h419 : SaysTrue Tryz.prog 419) (h420 : SaysTrue Tryz.prog 420) (h415 : SaysTrue Tryz.prog 415) (h413 : SaysTrue Tryz.prog 413) (h411 : SaysTrue Tryz.prog 411) (h409 : SaysTrue Tryz.prog 409) (h407 : SaysTrue Tryz.prog 407) (h404 : SaysTrue Tryz.prog 404) : SaysTrue Tryz.prog 402 :=
  says_of_yes (E := envOf Tryz.prog (tabOf [(95, 2), (94, 3), (45, 1), (341, 422576219), (340, 422576215), (339, 422576216), (212, 5438), (163, 171966621), (122, 156), (101, 2309), (100, 150994998), (449, 10), (437, 10), (438, 10), (423, 10), (419, 10), (420, 10), (415, 10), (413, 10), (411, 10), (409, 10), (407, 10), (404, 10)]) (tabOf sS) 403) (n := 3000) (envOf_list mixed_ok fields_ok names_ok held_ok (fun p hp => by
    simp only [List.mem_cons, List.not_mem_nil, or_false] at hp
    rcases hp with rfl | rfl | rfl | rfl | rfl | rfl | rfl | rfl | rfl | rfl | rfl | rfl | rfl | rfl | rfl | rfl | rfl | rfl | rfl | rfl | rfl | rfl | rfl
    · exact hk2
    · exact hk3
    · exact hk1
    · exact g341
    · exact g340
    · exact g339
    · exact g212
    · exact g163
    · exact g122
    · exact g101
    · exact g100
    · exact h449.hook
    · exact h437.hook
    · exact h438.hook
    · exact h423.hook
    · exact h419.hook
    · exact h420.hook
    · exact h415.hook
    · exact h413.hook
    · exact h411.hook
    · exact h409.hook
    · exact h407.hook
    · exact h404.hook
  )) (by kernel_rfl) (by kernel_rfl)
theorem Alaw13 (g341 : HookOK Tryz.prog 341 422576219) (g340 : HookOK Tryz.prog 340 422576215) (g339 : HookOK Tryz.prog 339 422576216) (g212 : HookOK Tryz.prog 212 5438) (g163 : HookOK Tryz.prog 163 171966621) (g122 : HookOK Tryz.prog 122 156) (g101 : HookOK Tryz.prog 101 2309) (g100 : HookOK Tryz.prog 100 150994998) (h402 : SaysTrue Tryz.prog 402) : SaysTrue Tryz.prog 401 :=
  says_of_yes (E := envOf Tryz.prog (tabOf [(95, 2), (94, 3), (45, 1), (341, 422576219), (340, 422576215), (339, 422576216), (212, 5438), (163, 171966621), (122, 156), (101, 2309), (100, 150994998), (402, 10)]) (tabOf sS) 403) (n := 3000) (envOf_list mixed_ok fields_ok names_ok held_ok (fun p hp => by
    simp only [List.mem_cons, List.not_mem_nil, or_false] at hp
    rcases hp with rfl | rfl | rfl | rfl | rfl | rfl | rfl | rfl | rfl | rfl | rfl | rfl
    · exact hk2
    · exact hk3
    · exact hk1
    · exact g341
    · exact g340
    · exact g339
    · exact g212
    · exact g163
    · exact g122
    · exact g101
    · exact g100
    · exact h402.hook
  )) (by kernel_rfl) (by kernel_rfl)
end Go.Proofs.YtbhafgjcmgobmaaGreatDoor
end
