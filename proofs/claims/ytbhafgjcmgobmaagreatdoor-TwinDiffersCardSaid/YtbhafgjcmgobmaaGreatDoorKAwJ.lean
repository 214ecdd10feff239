/-
  The awake functions of this seat say true.
-/
import Derived.Test.YtbhafgjcmgobmaaGreatDoorKAwB
import Derived.Test.YtbhafgjcmgobmaaGreatDoorKAwC
import Derived.Test.YtbhafgjcmgobmaaGreatDoorKAwD
import Derived.Test.YtbhafgjcmgobmaaGreatDoorKAwE
import Derived.Test.YtbhafgjcmgobmaaGreatDoorKAwF
import Derived.Test.YtbhafgjcmgobmaaGreatDoorKAwG
import Derived.Test.YtbhafgjcmgobmaaGreatDoorKAwH
import Derived.Test.YtbhafgjcmgobmaaGreatDoorKAwI
import Derived.Test.YtbhafgjcmgobmaaGreatDoorKAwK
import Derived.Test.YtbhafgjcmgobmaaGreatDoorKAwL
set_option linter.all false
open Go.Eng
namespace Go.Proofs.YtbhafgjcmgobmaaGreatDoor
theorem says450 : SaysTrue Tryz.prog 450 := alaw01 g341 g340 g339 g212 g163 g122 g101 g100 
theorem says449 : SaysTrue Tryz.prog 449 := Alaw01 g341 g340 g339 g212 g163 g122 g101 g100 says450
theorem says440 : SaysTrue Tryz.prog 440 := alaw02 g341 g340 g339 g212 g163 g122 g101 g100 says449
theorem says437 : SaysTrue Tryz.prog 437 := Alaw02 g341 g340 g339 g212 g163 g122 g101 g100 says440
theorem says441 : SaysTrue Tryz.prog 441 := alaw03 g341 g340 g339 g212 g163 g122 g101 g100 says449 says437
theorem says438 : SaysTrue Tryz.prog 438 := Alaw03 g341 g340 g339 g212 g163 g122 g101 g100 says441
theorem says428 : SaysTrue Tryz.prog 428 := alaw04 g341 g340 g339 g212 g163 g122 g101 g100 says449 says437 says438
theorem says423 : SaysTrue Tryz.prog 423 := Alaw04 g341 g340 g339 g212 g163 g122 g101 g100 says428
theorem says421 : SaysTrue Tryz.prog 421 := alaw05 g341 g340 g339 g212 g163 g122 g101 g100 says449 says437 says438 says423
theorem says419 : SaysTrue Tryz.prog 419 := Alaw05 g341 g340 g339 g212 g163 g122 g101 g100 says421
theorem says422 : SaysTrue Tryz.prog 422 := alaw06 g341 g340 g339 g212 g163 g122 g101 g100 says449 says437 says438 says423 says419
theorem says420 : SaysTrue Tryz.prog 420 := Alaw06 g341 g340 g339 g212 g163 g122 g101 g100 says422
theorem says416 : SaysTrue Tryz.prog 416 := alaw07 g341 g340 g339 g212 g163 g122 g101 g100 says449 says437 says438 says423 says419 says420
theorem says415 : SaysTrue Tryz.prog 415 := Alaw07 g341 g340 g339 g212 g163 g122 g101 g100 says416
theorem says414 : SaysTrue Tryz.prog 414 := alaw08 g341 g340 g339 g212 g163 g122 g101 g100 says449 says437 says438 says423 says419 says420 says415
theorem says413 : SaysTrue Tryz.prog 413 := Alaw08 g341 g340 g339 g212 g163 g122 g101 g100 says414
theorem says412 : SaysTrue Tryz.prog 412 := alaw09 g341 g340 g339 g212 g163 g122 g101 g100 says449 says437 says438 says423 says419 says420 says415 says413
theorem says411 : SaysTrue Tryz.prog 411 := Alaw09 g341 g340 g339 g212 g163 g122 g101 g100 says412
theorem says410 : SaysTrue Tryz.prog 410 := alaw10 g341 g340 g339 g212 g163 g122 g101 g100 says449 says437 says438 says423 says419 says420 says415 says413 says411
theorem says409 : SaysTrue Tryz.prog 409 := Alaw10 g341 g340 g339 g212 g163 g122 g101 g100 says410
theorem says408 : SaysTrue Tryz.prog 408 := alaw11 g341 g340 g339 g212 g163 g122 g101 g100 says449 says437 says438 says423 says419 says420 says415 says413 says411 says409
theorem says407 : SaysTrue Tryz.prog 407 := Alaw11 g341 g340 g339 g212 g163 g122 g101 g100 says408
theorem says406 : SaysTrue Tryz.prog 406 := alaw12 g341 g340 g339 g212 g163 g122 g101 g100 says449 says437 says438 says423 says419 says420 says415 says413 says411 says409 says407
theorem says404 : SaysTrue Tryz.prog 404 := Alaw12 g341 g340 g339 g212 g163 g122 g101 g100 says406
theorem says402 : SaysTrue Tryz.prog 402 := alaw13 g341 g340 g339 g212 g163 g122 g101 g100 says449 says437 says438 says423 says419 says420 says415 says413 says411 says409 says407 says404
theorem says401 : SaysTrue Tryz.prog 401 := Alaw13 g341 g340 g339 g212 g163 g122 g101 g100 says402
theorem says400 : SaysTrue Tryz.prog 400 := alaw14 g341 g340 g339 g212 g163 g122 g101 g100 says449 says437 says438 says423 says419 says420 says415 says413 says411 says409 says407 says404 says401
theorem says399 : SaysTrue Tryz.prog 399 := Alaw14 g341 g340 g339 g212 g163 g122 g101 g100 says400
theorem says397 : SaysTrue Tryz.prog 397 := alaw15 g341 g340 g339 g212 g163 g122 g101 g100 says449 says437 says438 says423 says419 says420 says415 says413 says411 says409 says407 says404 says401 says399
theorem says396 : SaysTrue Tryz.prog 396 := Alaw15 g341 g340 g339 g212 g163 g122 g101 g100 says397
theorem says395 : SaysTrue Tryz.prog 395 := alaw16 g341 g340 g339 g212 g163 g122 g101 g100 says449 says437 says438 says423 says419 says420 says415 says413 says411 says409 says407 says404 says401 says399 says396
theorem says394 : SaysTrue Tryz.prog 394 := Alaw16 g341 g340 g339 g212 g163 g122 g101 g100 says395
theorem says393 : SaysTrue Tryz.prog 393 := alaw17 g341 g340 g339 g212 g163 g122 g101 g100 says449 says437 says438 says423 says419 says420 says415 says413 says411 says409 says407 says404 says401 says399 says396 says394
theorem says391 : SaysTrue Tryz.prog 391 := Alaw17 g341 g340 g339 g212 g163 g122 g101 g100 says393
theorem says390 : SaysTrue Tryz.prog 390 := alaw18 g341 g340 g339 g212 g163 g122 g101 g100 says449 says437 says438 says423 says419 says420 says415 says413 says411 says409 says407 says404 says401 says399 says396 says394 says391
theorem says389 : SaysTrue Tryz.prog 389 := Alaw18 g341 g340 g339 g212 g163 g122 g101 g100 says390
theorem says388 : SaysTrue Tryz.prog 388 := alaw19 g341 g340 g339 g212 g163 g122 g101 g100 says449 says437 says438 says423 says419 says420 says415 says413 says411 says409 says407 says404 says401 says399 says396 says394 says391 says389
theorem says386 : SaysTrue Tryz.prog 386 := Alaw19 g341 g340 g339 g212 g163 g122 g101 g100 says388
theorem says381 : SaysTrue Tryz.prog 381 := alaw20 g341 g340 g339 g212 g163 g122 g101 g100 says449 says437 says438 says423 says419 says420 says415 says413 says411 says409 says407 says404 says401 says399 says396 says394 says391 says389 says386
theorem says373 : SaysTrue Tryz.prog 373 := Alaw20 g341 g340 g339 g212 g163 g122 g101 g100 says381
theorem says363 : SaysTrue Tryz.prog 363 := alaw21 g341 g340 g339 g212 g163 g122 g101 g100 says449 says437 says438 says423 says419 says420 says415 says413 says411 says409 says407 says404 says401 says399 says396 says394 says391 says389 says386 says373
theorem says344 : SaysTrue Tryz.prog 344 := Alaw21 g341 g340 g339 g212 g163 g122 g101 g100 says363
theorem says306 : SaysTrue Tryz.prog 306 := alaw22 g341 g340 g339 g212 g163 g122 g101 g100 says449 says437 says438 says423 says419 says420 says415 says413 says411 says409 says407 says404 says401 says399 says396 says394 says391 says389 says386 says373 says344
theorem says245 : SaysTrue Tryz.prog 245 := Alaw22 g341 g340 g339 g212 g163 g122 g101 g100 says306
theorem says194 : SaysTrue Tryz.prog 194 := alaw23 g341 g340 g339 g212 g163 g122 g101 g100 says449 says437 says438 says423 says419 says420 says415 says413 says411 says409 says407 says404 says401 says399 says396 says394 says391 says389 says386 says373 says344 says245
theorem says140 : SaysTrue Tryz.prog 140 := Alaw23 g341 g340 g339 g212 g163 g122 g101 g100 says194
theorem says99 : SaysTrue Tryz.prog 99 := alaw24 g341 g340 g339 g212 g163 g122 g101 g100 says449 says437 says438 says423 says419 says420 says415 says413 says411 says409 says407 says404 says401 says399 says396 says394 says391 says389 says386 says373 says344 says245 says140
theorem says69 : SaysTrue Tryz.prog 69 := Alaw24 g341 g340 g339 g212 g163 g122 g101 g100 says99
theorem says49 : SaysTrue Tryz.prog 49 := alaw25 g341 g340 g339 g212 g163 g122 g101 g100 says449 says437 says438 says423 says419 says420 says415 says413 says411 says409 says407 says404 says401 says399 says396 says394 says391 says389 says386 says373 says344 says245 says140 says69
theorem says34 : SaysTrue Tryz.prog 34 := Alaw25 g341 g340 g339 g212 g163 g122 g101 g100 says49
theorem says22 : SaysTrue Tryz.prog 22 := alaw26 g341 g340 g339 g212 g163 g122 g101 g100 says449 says437 says438 says423 says419 says420 says415 says413 says411 says409 says407 says404 says401 says399 says396 says394 says391 says389 says386 says373 says344 says245 says140 says69 says34
theorem says13 : SaysTrue Tryz.prog 13 := Alaw26 g341 g340 g339 g212 g163 g122 g101 g100 says22
theorem says10 : SaysTrue Tryz.prog 10 := alaw27 g341 g340 g339 g212 g163 g122 g101 g100 says449 says437 says438 says423 says419 says420 says415 says413 says411 says409 says407 says404 says401 says399 says396 says394 says391 says389 says386 says373 says344 says245 says140 says69 says34 says13
theorem says8 : SaysTrue Tryz.prog 8 := Alaw27 g341 g340 g339 g212 g163 g122 g101 g100 says10
theorem says4 : SaysTrue Tryz.prog 4 := alaw28 g341 g340 g339 g212 g163 g122 g101 g100 says449 says437 says438 says423 says419 says420 says415 says413 says411 says409 says407 says404 says401 says399 says396 says394 says391 says389 says386 says373 says344 says245 says140 says69 says34 says13 says8
end Go.Proofs.YtbhafgjcmgobmaaGreatDoor
