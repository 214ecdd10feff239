/-
  The awake functions of this seat say true.
-/
import Derived.Test.YtkoccbggjfbgaaaGreatDoorK23
import Derived.Test.YtkoccbggjfbgaaaGreatDoorK25
import Derived.Test.YtkoccbggjfbgaaaGreatDoorK26
import Derived.Test.YtkoccbggjfbgaaaGreatDoorK27
import Derived.Test.YtkoccbggjfbgaaaGreatDoorK28
import Derived.Test.YtkoccbggjfbgaaaGreatDoorK29
import Derived.Test.YtkoccbggjfbgaaaGreatDoorK30
import Derived.Test.YtkoccbggjfbgaaaGreatDoorK31
import Derived.Test.YtkoccbggjfbgaaaGreatDoorK32
import Derived.Test.YtkoccbggjfbgaaaGreatDoorK33
set_option linter.all false
open Go.Eng
namespace Go.Proofs.YtkoccbggjfbgaaaGreatDoor
theorem says419 : SaysTrue Tryz.prog 419 := alaw01 g172 g171 g145 g43 g34 g33 g32 g31 g19 
theorem says418 : SaysTrue Tryz.prog 418 := Alaw01 g172 g171 g145 g43 g34 g33 g32 g31 g19 says419
theorem says409 : SaysTrue Tryz.prog 409 := alaw02 g172 g171 g145 g43 g34 g33 g32 g31 g19 says418
theorem says406 : SaysTrue Tryz.prog 406 := Alaw02 g172 g171 g145 g43 g34 g33 g32 g31 g19 says409
theorem says410 : SaysTrue Tryz.prog 410 := alaw03 g172 g171 g145 g43 g34 g33 g32 g31 g19 says418 says406
theorem says407 : SaysTrue Tryz.prog 407 := Alaw03 g172 g171 g145 g43 g34 g33 g32 g31 g19 says410
theorem says397 : SaysTrue Tryz.prog 397 := alaw04 g172 g171 g145 g43 g34 g33 g32 g31 g19 says418 says406 says407
theorem says392 : SaysTrue Tryz.prog 392 := Alaw04 g172 g171 g145 g43 g34 g33 g32 g31 g19 says397
theorem says390 : SaysTrue Tryz.prog 390 := alaw05 g172 g171 g145 g43 g34 g33 g32 g31 g19 says418 says406 says407 says392
theorem says388 : SaysTrue Tryz.prog 388 := Alaw05 g172 g171 g145 g43 g34 g33 g32 g31 g19 says390
theorem says391 : SaysTrue Tryz.prog 391 := alaw06 g172 g171 g145 g43 g34 g33 g32 g31 g19 says418 says406 says407 says392 says388
theorem says389 : SaysTrue Tryz.prog 389 := Alaw06 g172 g171 g145 g43 g34 g33 g32 g31 g19 says391
theorem says385 : SaysTrue Tryz.prog 385 := alaw07 g172 g171 g145 g43 g34 g33 g32 g31 g19 says418 says406 says407 says392 says388 says389
theorem says384 : SaysTrue Tryz.prog 384 := Alaw07 g172 g171 g145 g43 g34 g33 g32 g31 g19 says385
theorem says383 : SaysTrue Tryz.prog 383 := alaw08 g172 g171 g145 g43 g34 g33 g32 g31 g19 says418 says406 says407 says392 says388 says389 says384
theorem says382 : SaysTrue Tryz.prog 382 := Alaw08 g172 g171 g145 g43 g34 g33 g32 g31 g19 says383
theorem says381 : SaysTrue Tryz.prog 381 := alaw09 g172 g171 g145 g43 g34 g33 g32 g31 g19 says418 says406 says407 says392 says388 says389 says384 says382
theorem says380 : SaysTrue Tryz.prog 380 := Alaw09 g172 g171 g145 g43 g34 g33 g32 g31 g19 says381
theorem says379 : SaysTrue Tryz.prog 379 := alaw10 g172 g171 g145 g43 g34 g33 g32 g31 g19 says418 says406 says407 says392 says388 says389 says384 says382 says380
theorem says378 : SaysTrue Tryz.prog 378 := Alaw10 g172 g171 g145 g43 g34 g33 g32 g31 g19 says379
theorem says376 : SaysTrue Tryz.prog 376 := alaw11 g172 g171 g145 g43 g34 g33 g32 g31 g19 says418 says406 says407 says392 says388 says389 says384 says382 says380 says378
theorem says375 : SaysTrue Tryz.prog 375 := Alaw11 g172 g171 g145 g43 g34 g33 g32 g31 g19 says376
theorem says374 : SaysTrue Tryz.prog 374 := alaw12 g172 g171 g145 g43 g34 g33 g32 g31 g19 says418 says406 says407 says392 says388 says389 says384 says382 says380 says378 says375
theorem says372 : SaysTrue Tryz.prog 372 := Alaw12 g172 g171 g145 g43 g34 g33 g32 g31 g19 says374
theorem says370 : SaysTrue Tryz.prog 370 := alaw13 g172 g171 g145 g43 g34 g33 g32 g31 g19 says418 says406 says407 says392 says388 says389 says384 says382 says380 says378 says375 says372
theorem says369 : SaysTrue Tryz.prog 369 := Alaw13 g172 g171 g145 g43 g34 g33 g32 g31 g19 says370
theorem says368 : SaysTrue Tryz.prog 368 := alaw14 g172 g171 g145 g43 g34 g33 g32 g31 g19 says418 says406 says407 says392 says388 says389 says384 says382 says380 says378 says375 says372 says369
theorem says367 : SaysTrue Tryz.prog 367 := Alaw14 g172 g171 g145 g43 g34 g33 g32 g31 g19 says368
theorem says365 : SaysTrue Tryz.prog 365 := alaw15 g172 g171 g145 g43 g34 g33 g32 g31 g19 says418 says406 says407 says392 says388 says389 says384 says382 says380 says378 says375 says372 says369 says367
theorem says363 : SaysTrue Tryz.prog 363 := Alaw15 g172 g171 g145 g43 g34 g33 g32 g31 g19 says365
theorem says362 : SaysTrue Tryz.prog 362 := alaw16 g172 g171 g145 g43 g34 g33 g32 g31 g19 says418 says406 says407 says392 says388 says389 says384 says382 says380 says378 says375 says372 says369 says367 says363
theorem says361 : SaysTrue Tryz.prog 361 := Alaw16 g172 g171 g145 g43 g34 g33 g32 g31 g19 says362
theorem says360 : SaysTrue Tryz.prog 360 := alaw17 g172 g171 g145 g43 g34 g33 g32 g31 g19 says418 says406 says407 says392 says388 says389 says384 says382 says380 says378 says375 says372 says369 says367 says363 says361
theorem says354 : SaysTrue Tryz.prog 354 := Alaw17 g172 g171 g145 g43 g34 g33 g32 g31 g19 says360
theorem says344 : SaysTrue Tryz.prog 344 := alaw18 g172 g171 g145 g43 g34 g33 g32 g31 g19 says418 says406 says407 says392 says388 says389 says384 says382 says380 says378 says375 says372 says369 says367 says363 says361 says354
theorem says321 : SaysTrue Tryz.prog 321 := Alaw18 g172 g171 g145 g43 g34 g33 g32 g31 g19 says344
theorem says286 : SaysTrue Tryz.prog 286 := alaw19 g172 g171 g145 g43 g34 g33 g32 g31 g19 says418 says406 says407 says392 says388 says389 says384 says382 says380 says378 says375 says372 says369 says367 says363 says361 says354 says321
theorem says244 : SaysTrue Tryz.prog 244 := Alaw19 g172 g171 g145 g43 g34 g33 g32 g31 g19 says286
theorem says215 : SaysTrue Tryz.prog 215 := alaw20 g172 g171 g145 g43 g34 g33 g32 g31 g19 says418 says406 says407 says392 says388 says389 says384 says382 says380 says378 says375 says372 says369 says367 says363 says361 says354 says321 says244
theorem says193 : SaysTrue Tryz.prog 193 := Alaw20 g172 g171 g145 g43 g34 g33 g32 g31 g19 says215
theorem says164 : SaysTrue Tryz.prog 164 := alaw21 g172 g171 g145 g43 g34 g33 g32 g31 g19 says418 says406 says407 says392 says388 says389 says384 says382 says380 says378 says375 says372 says369 says367 says363 says361 says354 says321 says244 says193
theorem says134 : SaysTrue Tryz.prog 134 := Alaw21 g172 g171 g145 g43 g34 g33 g32 g31 g19 says164
theorem says102 : SaysTrue Tryz.prog 102 := alaw22 g172 g171 g145 g43 g34 g33 g32 g31 g19 says418 says406 says407 says392 says388 says389 says384 says382 says380 says378 says375 says372 says369 says367 says363 says361 says354 says321 says244 says193 says134
theorem says74 : SaysTrue Tryz.prog 74 := Alaw22 g172 g171 g145 g43 g34 g33 g32 g31 g19 says102
theorem says41 : SaysTrue Tryz.prog 41 := alaw23 g172 g171 g145 g43 g34 g33 g32 g31 g19 says418 says406 says407 says392 says388 says389 says384 says382 says380 says378 says375 says372 says369 says367 says363 says361 says354 says321 says244 says193 says134 says74
theorem says17 : SaysTrue Tryz.prog 17 := Alaw23 g172 g171 g145 g43 g34 g33 g32 g31 g19 says41
theorem says7 : SaysTrue Tryz.prog 7 := alaw24 g172 g171 g145 g43 g34 g33 g32 g31 g19 says418 says406 says407 says392 says388 says389 says384 says382 says380 says378 says375 says372 says369 says367 says363 says361 says354 says321 says244 says193 says134 says74 says17
end Go.Proofs.YtkoccbggjfbgaaaGreatDoor
