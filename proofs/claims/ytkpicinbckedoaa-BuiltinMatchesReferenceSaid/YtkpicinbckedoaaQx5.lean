-- Written by wip/tool/qprint.py: the print of the kit, with hand-proved contracts put in. Lean checks it.
import Derived.Test.YtkpicinbckedoaaHSq
import Derived.Test.YtkpicinbckedoaaQx0
import Derived.Test.YtkpicinbckedoaaQx3
import Derived.Test.YtkpicinbckedoaaQx4
namespace Go.Proofs.Ytkpicinbckedoaa.Q
open Go.RowKit Go.Proofs.YtkpicinbckedoaaW.PrintWords Go.Proofs.YtkpicinbckedoaaW.PrintLast Go.Proofs.YtkpicinbckedoaaW.PrintMore
attribute [local go_sem] max2_int min2_int max_two min_two max_three min_three max_four min_four   -- for this text's walks alone
set_option linter.unusedVariables false
set_option linter.unusedSimpArgs false

/-! ### computusref24_Catalogue: function 9 -/
def computusref24_Catalogue.f  : Option (Int × (List (S33)) × (List (S35))) := (computusref24_season.f (⟨#[98, 97, 112, 116, 105, 115, 109, 45, 116, 105, 100, 101]⟩ : ByteArray) 5 8 3 1 8 0 1 1).bind fun bt312 => (if ([] : List (S33)).length < 1759218604441 then ((some (([] : List (S33)) ++ [(⟨bt312.1, bt312.2.1, bt312.2.2.1, (⟨bt312.2.2.2.1, bt312.2.2.2.2.1, bt312.2.2.2.2.2.1, bt312.2.2.2.2.2.2.1, bt312.2.2.2.2.2.2.2.1, bt312.2.2.2.2.2.2.2.2⟩ : S31)⟩ : S33)] : List (S33))).bind fun y321 => ((computusref24_paschal.f (-46)).bind fun bt324 => ((computusref24_season.f (⟨#[108, 101, 110, 116]⟩ : ByteArray) 2 6 bt324.1 bt324.2.1 bt324.2.2.1 bt324.2.2.2.1 bt324.2.2.2.2.1 bt324.2.2.2.2.2).bind fun bt330 => ((computusref24_paschal.f (-7)).bind fun bt339 => ((computusref24_season.f (⟨#[104, 111, 108, 121, 45, 119, 101, 101, 107]⟩ : ByteArray) 1 1 bt339.1 bt339.2.1 bt339.2.2.1 bt339.2.2.2.1 bt339.2.2.2.2.1 bt339.2.2.2.2.2).bind fun bt345 => ((computusref24_paschal.f 0).bind fun bt354 => ((computusref24_season.f (⟨#[101, 97, 115, 116, 101, 114, 45, 111, 99, 116, 97, 118, 101]⟩ : ByteArray) 1 1 bt354.1 bt354.2.1 bt354.2.2.1 bt354.2.2.2.1 bt354.2.2.2.2.1 bt354.2.2.2.2.2).bind fun bt360 => ((some (([(⟨bt330.1, bt330.2.1, bt330.2.2.1, (⟨bt330.2.2.2.1, bt330.2.2.2.2.1, bt330.2.2.2.2.2.1, bt330.2.2.2.2.2.2.1, bt330.2.2.2.2.2.2.2.1, bt330.2.2.2.2.2.2.2.2⟩ : S31)⟩ : S33), (⟨bt345.1, bt345.2.1, bt345.2.2.1, (⟨bt345.2.2.2.1, bt345.2.2.2.2.1, bt345.2.2.2.2.2.1, bt345.2.2.2.2.2.2.1, bt345.2.2.2.2.2.2.2.1, bt345.2.2.2.2.2.2.2.2⟩ : S31)⟩ : S33), (⟨bt360.1, bt360.2.1, bt360.2.2.1, (⟨bt360.2.2.2.1, bt360.2.2.2.2.1, bt360.2.2.2.2.2.1, bt360.2.2.2.2.2.2.1, bt360.2.2.2.2.2.2.2.1, bt360.2.2.2.2.2.2.2.2⟩ : S31)⟩ : S33)] : List (S33)) : List (S33))).bind fun y369 => (if y321.length + y369.length < 1759218604441 then ((some (y321 ++ y369 : List (S33))).bind fun y372 => ((computusref24_paschal.f 8).bind fun bt375 => ((computusref24_season.f (⟨#[101, 97, 115, 116, 101, 114, 116, 105, 100, 101]⟩ : ByteArray) 2 8 bt375.1 bt375.2.1 bt375.2.2.1 bt375.2.2.2.1 bt375.2.2.2.2.1 bt375.2.2.2.2.2).bind fun bt381 => ((computusref24_paschal.f 50).bind fun bt390 => ((computusref24_season.f (⟨#[111, 114, 100, 105, 110, 97, 114, 121, 45, 116, 105, 109, 101]⟩ : ByteArray) 5 8 bt390.1 bt390.2.1 bt390.2.2.1 bt390.2.2.2.1 bt390.2.2.2.2.1 bt390.2.2.2.2.2).bind fun bt396 => ((some (([(⟨bt381.1, bt381.2.1, bt381.2.2.1, (⟨bt381.2.2.2.1, bt381.2.2.2.2.1, bt381.2.2.2.2.2.1, bt381.2.2.2.2.2.2.1, bt381.2.2.2.2.2.2.2.1, bt381.2.2.2.2.2.2.2.2⟩ : S31)⟩ : S33), (⟨bt396.1, bt396.2.1, bt396.2.2.1, (⟨bt396.2.2.2.1, bt396.2.2.2.2.1, bt396.2.2.2.2.2.1, bt396.2.2.2.2.2.2.1, bt396.2.2.2.2.2.2.2.1, bt396.2.2.2.2.2.2.2.2⟩ : S31)⟩ : S33)] : List (S33)) : List (S33))).bind fun y405 => (if y372.length + y405.length < 1759218604441 then ((some (y372 ++ y405 : List (S33))).bind fun y408 => ((computusref24_sunday.f 11 27).bind fun bt411 => ((computusref24_season.f (⟨#[97, 100, 118, 101, 110, 116]⟩ : ByteArray) 2 7 bt411.1 bt411.2.1 bt411.2.2.1 bt411.2.2.2.1 bt411.2.2.2.2.1 bt411.2.2.2.2.2).bind fun bt417 => ((computusref24_fixed.f 12 25).bind fun bt426 => ((computusref24_season.f (⟨#[99, 104, 114, 105, 115, 116, 109, 97, 115]⟩ : ByteArray) 3 6 bt426.1 bt426.2.1 bt426.2.2.1 bt426.2.2.2.1 bt426.2.2.2.2.1 bt426.2.2.2.2.2).bind fun bt432 => ((some (([(⟨bt417.1, bt417.2.1, bt417.2.2.1, (⟨bt417.2.2.2.1, bt417.2.2.2.2.1, bt417.2.2.2.2.2.1, bt417.2.2.2.2.2.2.1, bt417.2.2.2.2.2.2.2.1, bt417.2.2.2.2.2.2.2.2⟩ : S31)⟩ : S33), (⟨bt432.1, bt432.2.1, bt432.2.2.1, (⟨bt432.2.2.2.1, bt432.2.2.2.2.1, bt432.2.2.2.2.2.1, bt432.2.2.2.2.2.2.1, bt432.2.2.2.2.2.2.2.1, bt432.2.2.2.2.2.2.2.2⟩ : S31)⟩ : S33)] : List (S33)) : List (S33))).bind fun y441 => (if y408.length + y441.length < 1759218604441 then ((computusref24_fixed.f 1 1).bind fun bt447 => ((computusref24_feast.f (⟨#[109, 97, 114, 121, 45, 109, 111, 116, 104, 101, 114, 45, 111, 102, 45, 103, 111, 100]⟩ : ByteArray) 1 2 bt447.1 bt447.2.1 bt447.2.2.1 bt447.2.2.2.1 bt447.2.2.2.2.1 bt447.2.2.2.2.2).bind fun bt453 => ((computusref24_fixed.f 1 6).bind fun bt462 => ((computusref24_feast.f (⟨#[101, 112, 105, 112, 104, 97, 110, 121]⟩ : ByteArray) 1 2 bt462.1 bt462.2.1 bt462.2.2.1 bt462.2.2.2.1 bt462.2.2.2.2.1 bt462.2.2.2.2.2).bind fun bt468 => ((computusref24_sunday.f 1 7).bind fun bt477 => ((computusref24_feast.f (⟨#[98, 97, 112, 116, 105, 115, 109, 45, 111, 102, 45, 116, 104, 101, 45, 108, 111, 114, 100]⟩ : ByteArray) 2 3 bt477.1 bt477.2.1 bt477.2.2.1 bt477.2.2.2.1 bt477.2.2.2.2.1 bt477.2.2.2.2.2).bind fun bt483 => ((some (([(⟨bt453.1, bt453.2.1, bt453.2.2.1, (⟨bt453.2.2.2.1, bt453.2.2.2.2.1, bt453.2.2.2.2.2.1, bt453.2.2.2.2.2.2.1, bt453.2.2.2.2.2.2.2.1, bt453.2.2.2.2.2.2.2.2⟩ : S31)⟩ : S35), (⟨bt468.1, bt468.2.1, bt468.2.2.1, (⟨bt468.2.2.2.1, bt468.2.2.2.2.1, bt468.2.2.2.2.2.1, bt468.2.2.2.2.2.2.1, bt468.2.2.2.2.2.2.2.1, bt468.2.2.2.2.2.2.2.2⟩ : S31)⟩ : S35), (⟨bt483.1, bt483.2.1, bt483.2.2.1, (⟨bt483.2.2.2.1, bt483.2.2.2.2.1, bt483.2.2.2.2.2.1, bt483.2.2.2.2.2.2.1, bt483.2.2.2.2.2.2.2.1, bt483.2.2.2.2.2.2.2.2⟩ : S31)⟩ : S35)] : List (S35)) : List (S35))).bind fun y492 => (if ([] : List (S35)).length + y492.length < 1759218604441 then ((some (([] : List (S35)) ++ y492 : List (S35))).bind fun y495 => ((computusref24_fixed.f 1 25).bind fun bt498 => ((computusref24_feast.f (⟨#[99, 111, 110, 118, 101, 114, 115, 105, 111, 110, 45, 111, 102, 45, 112, 97, 117, 108]⟩ : ByteArray) 4 3 bt498.1 bt498.2.1 bt498.2.2.1 bt498.2.2.2.1 bt498.2.2.2.2.1 bt498.2.2.2.2.2).bind fun bt504 => ((computusref24_fixed.f 2 2).bind fun bt513 => ((computusref24_feast.f (⟨#[112, 114, 101, 115, 101, 110, 116, 97, 116, 105, 111, 110]⟩ : ByteArray) 2 3 bt513.1 bt513.2.1 bt513.2.2.1 bt513.2.2.2.1 bt513.2.2.2.2.1 bt513.2.2.2.2.2).bind fun bt519 => ((computusref24_fixed.f 2 22).bind fun bt528 => ((computusref24_feast.f (⟨#[99, 104, 97, 105, 114, 45, 111, 102, 45, 112, 101, 116, 101, 114]⟩ : ByteArray) 4 2 bt528.1 bt528.2.1 bt528.2.2.1 bt528.2.2.2.1 bt528.2.2.2.2.1 bt528.2.2.2.2.2).bind fun bt534 => ((some (([(⟨bt504.1, bt504.2.1, bt504.2.2.1, (⟨bt504.2.2.2.1, bt504.2.2.2.2.1, bt504.2.2.2.2.2.1, bt504.2.2.2.2.2.2.1, bt504.2.2.2.2.2.2.2.1, bt504.2.2.2.2.2.2.2.2⟩ : S31)⟩ : S35), (⟨bt519.1, bt519.2.1, bt519.2.2.1, (⟨bt519.2.2.2.1, bt519.2.2.2.2.1, bt519.2.2.2.2.2.1, bt519.2.2.2.2.2.2.1, bt519.2.2.2.2.2.2.2.1, bt519.2.2.2.2.2.2.2.2⟩ : S31)⟩ : S35), (⟨bt534.1, bt534.2.1, bt534.2.2.1, (⟨bt534.2.2.2.1, bt534.2.2.2.2.1, bt534.2.2.2.2.2.1, bt534.2.2.2.2.2.2.1, bt534.2.2.2.2.2.2.2.1, bt534.2.2.2.2.2.2.2.2⟩ : S31)⟩ : S35)] : List (S35)) : List (S35))).bind fun y543 => (if y495.length + y543.length < 1759218604441 then ((some (y495 ++ y543 : List (S35))).bind fun y546 => ((computusref24_fixed.f 3 19).bind fun bt549 => ((computusref24_feast.f (⟨#[106, 111, 115, 101, 112, 104]⟩ : ByteArray) 1 1 bt549.1 bt549.2.1 bt549.2.2.1 bt549.2.2.2.1 bt549.2.2.2.2.1 bt549.2.2.2.2.2).bind fun bt555 => ((computusref24_fixed.f 3 25).bind fun bt564 => ((computusref24_feast.f (⟨#[97, 110, 110, 117, 110, 99, 105, 97, 116, 105, 111, 110]⟩ : ByteArray) 1 1 bt564.1 bt564.2.1 bt564.2.2.1 bt564.2.2.2.1 bt564.2.2.2.2.1 bt564.2.2.2.2.2).bind fun bt570 => ((some (([(⟨bt555.1, bt555.2.1, bt555.2.2.1, (⟨bt555.2.2.2.1, bt555.2.2.2.2.1, bt555.2.2.2.2.2.1, bt555.2.2.2.2.2.2.1, bt555.2.2.2.2.2.2.2.1, bt555.2.2.2.2.2.2.2.2⟩ : S31)⟩ : S35), (⟨bt570.1, bt570.2.1, bt570.2.2.1, (⟨bt570.2.2.2.1, bt570.2.2.2.2.1, bt570.2.2.2.2.2.1, bt570.2.2.2.2.2.2.1, bt570.2.2.2.2.2.2.2.1, bt570.2.2.2.2.2.2.2.2⟩ : S31)⟩ : S35)] : List (S35)) : List (S35))).bind fun y579 => (if y546.length + y579.length < 1759218604441 then ((some (y546 ++ y579 : List (S35))).bind fun y582 => ((computusref24_paschal.f 39).bind fun bt585 => ((computusref24_feast.f (⟨#[97, 115, 99, 101, 110, 115, 105, 111, 110]⟩ : ByteArray) 1 2 bt585.1 bt585.2.1 bt585.2.2.1 bt585.2.2.2.1 bt585.2.2.2.2.1 bt585.2.2.2.2.2).bind fun bt591 => ((computusref24_paschal.f 49).bind fun bt600 => ((computusref24_feast.f (⟨#[112, 101, 110, 116, 101, 99, 111, 115, 116]⟩ : ByteArray) 1 2 bt600.1 bt600.2.1 bt600.2.2.1 bt600.2.2.2.1 bt600.2.2.2.2.1 bt600.2.2.2.2.2).bind fun bt606 => ((computusref24_paschal.f 56).bind fun bt615 => ((computusref24_feast.f (⟨#[116, 114, 105, 110, 105, 116, 121]⟩ : ByteArray) 1 2 bt615.1 bt615.2.1 bt615.2.2.1 bt615.2.2.2.1 bt615.2.2.2.2.1 bt615.2.2.2.2.2).bind fun bt621 => ((some (([(⟨bt591.1, bt591.2.1, bt591.2.2.1, (⟨bt591.2.2.2.1, bt591.2.2.2.2.1, bt591.2.2.2.2.2.1, bt591.2.2.2.2.2.2.1, bt591.2.2.2.2.2.2.2.1, bt591.2.2.2.2.2.2.2.2⟩ : S31)⟩ : S35), (⟨bt606.1, bt606.2.1, bt606.2.2.1, (⟨bt606.2.2.2.1, bt606.2.2.2.2.1, bt606.2.2.2.2.2.1, bt606.2.2.2.2.2.2.1, bt606.2.2.2.2.2.2.2.1, bt606.2.2.2.2.2.2.2.2⟩ : S31)⟩ : S35), (⟨bt621.1, bt621.2.1, bt621.2.2.1, (⟨bt621.2.2.2.1, bt621.2.2.2.2.1, bt621.2.2.2.2.2.1, bt621.2.2.2.2.2.2.1, bt621.2.2.2.2.2.2.2.1, bt621.2.2.2.2.2.2.2.2⟩ : S31)⟩ : S35)] : List (S35)) : List (S35))).bind fun y630 => (if y582.length + y630.length < 1759218604441 then ((some (y582 ++ y630 : List (S35))).bind fun y633 => ((computusref24_paschal.f 60).bind fun bt636 => ((computusref24_feast.f (⟨#[99, 111, 114, 112, 117, 115, 45, 99, 104, 114, 105, 115, 116, 105]⟩ : ByteArray) 1 2 bt636.1 bt636.2.1 bt636.2.2.1 bt636.2.2.2.1 bt636.2.2.2.2.1 bt636.2.2.2.2.2).bind fun bt642 => ((computusref24_paschal.f 68).bind fun bt651 => ((computusref24_feast.f (⟨#[115, 97, 99, 114, 101, 100, 45, 104, 101, 97, 114, 116]⟩ : ByteArray) 1 2 bt651.1 bt651.2.1 bt651.2.2.1 bt651.2.2.2.1 bt651.2.2.2.2.1 bt651.2.2.2.2.2).bind fun bt657 => ((some (([(⟨bt642.1, bt642.2.1, bt642.2.2.1, (⟨bt642.2.2.2.1, bt642.2.2.2.2.1, bt642.2.2.2.2.2.1, bt642.2.2.2.2.2.2.1, bt642.2.2.2.2.2.2.2.1, bt642.2.2.2.2.2.2.2.2⟩ : S31)⟩ : S35), (⟨bt657.1, bt657.2.1, bt657.2.2.1, (⟨bt657.2.2.2.1, bt657.2.2.2.2.1, bt657.2.2.2.2.2.1, bt657.2.2.2.2.2.2.1, bt657.2.2.2.2.2.2.2.1, bt657.2.2.2.2.2.2.2.2⟩ : S31)⟩ : S35)] : List (S35)) : List (S35))).bind fun y666 => (if y633.length + y666.length < 1759218604441 then ((some (y633 ++ y666 : List (S35))).bind fun y669 => ((computusref24_fixed.f 6 24).bind fun bt672 => ((computusref24_feast.f (⟨#[106, 111, 104, 110, 45, 98, 97, 112, 116, 105, 115, 116]⟩ : ByteArray) 1 1 bt672.1 bt672.2.1 bt672.2.2.1 bt672.2.2.2.1 bt672.2.2.2.2.1 bt672.2.2.2.2.2).bind fun bt678 => ((computusref24_fixed.f 6 29).bind fun bt687 => ((computusref24_feast.f (⟨#[112, 101, 116, 101, 114, 45, 97, 110, 100, 45, 112, 97, 117, 108]⟩ : ByteArray) 1 1 bt687.1 bt687.2.1 bt687.2.2.1 bt687.2.2.2.1 bt687.2.2.2.2.1 bt687.2.2.2.2.2).bind fun bt693 => ((some (([(⟨bt678.1, bt678.2.1, bt678.2.2.1, (⟨bt678.2.2.2.1, bt678.2.2.2.2.1, bt678.2.2.2.2.2.1, bt678.2.2.2.2.2.2.1, bt678.2.2.2.2.2.2.2.1, bt678.2.2.2.2.2.2.2.2⟩ : S31)⟩ : S35), (⟨bt693.1, bt693.2.1, bt693.2.2.1, (⟨bt693.2.2.2.1, bt693.2.2.2.2.1, bt693.2.2.2.2.2.1, bt693.2.2.2.2.2.2.1, bt693.2.2.2.2.2.2.2.1, bt693.2.2.2.2.2.2.2.2⟩ : S31)⟩ : S35)] : List (S35)) : List (S35))).bind fun y702 => (if y669.length + y702.length < 1759218604441 then ((some (y669 ++ y702 : List (S35))).bind fun y705 => ((computusref24_fixed.f 8 6).bind fun bt708 => ((computusref24_feast.f (⟨#[116, 114, 97, 110, 115, 102, 105, 103, 117, 114, 97, 116, 105, 111, 110]⟩ : ByteArray) 2 3 bt708.1 bt708.2.1 bt708.2.2.1 bt708.2.2.2.1 bt708.2.2.2.2.1 bt708.2.2.2.2.2).bind fun bt714 => ((computusref24_fixed.f 8 15).bind fun bt723 => ((computusref24_feast.f (⟨#[97, 115, 115, 117, 109, 112, 116, 105, 111, 110]⟩ : ByteArray) 1 2 bt723.1 bt723.2.1 bt723.2.2.1 bt723.2.2.2.1 bt723.2.2.2.2.1 bt723.2.2.2.2.2).bind fun bt729 => ((computusref24_fixed.f 9 14).bind fun bt738 => ((computusref24_feast.f (⟨#[101, 120, 97, 108, 116, 97, 116, 105, 111, 110, 45, 111, 102, 45, 116, 104, 101, 45, 99, 114, 111, 115, 115]⟩ : ByteArray) 2 3 bt738.1 bt738.2.1 bt738.2.2.1 bt738.2.2.2.1 bt738.2.2.2.2.1 bt738.2.2.2.2.2).bind fun bt744 => ((some (([(⟨bt714.1, bt714.2.1, bt714.2.2.1, (⟨bt714.2.2.2.1, bt714.2.2.2.2.1, bt714.2.2.2.2.2.1, bt714.2.2.2.2.2.2.1, bt714.2.2.2.2.2.2.2.1, bt714.2.2.2.2.2.2.2.2⟩ : S31)⟩ : S35), (⟨bt729.1, bt729.2.1, bt729.2.2.1, (⟨bt729.2.2.2.1, bt729.2.2.2.2.1, bt729.2.2.2.2.2.1, bt729.2.2.2.2.2.2.1, bt729.2.2.2.2.2.2.2.1, bt729.2.2.2.2.2.2.2.2⟩ : S31)⟩ : S35), (⟨bt744.1, bt744.2.1, bt744.2.2.1, (⟨bt744.2.2.2.1, bt744.2.2.2.2.1, bt744.2.2.2.2.2.1, bt744.2.2.2.2.2.2.1, bt744.2.2.2.2.2.2.2.1, bt744.2.2.2.2.2.2.2.2⟩ : S31)⟩ : S35)] : List (S35)) : List (S35))).bind fun y753 => (if y705.length + y753.length < 1759218604441 then ((some (y705 ++ y753 : List (S35))).bind fun y756 => ((computusref24_fixed.f 11 1).bind fun bt759 => ((computusref24_feast.f (⟨#[97, 108, 108, 45, 115, 97, 105, 110, 116, 115]⟩ : ByteArray) 1 2 bt759.1 bt759.2.1 bt759.2.2.1 bt759.2.2.2.1 bt759.2.2.2.2.1 bt759.2.2.2.2.2).bind fun bt765 => ((computusref24_fixed.f 11 2).bind fun bt774 => ((computusref24_feast.f (⟨#[97, 108, 108, 45, 115, 111, 117, 108, 115]⟩ : ByteArray) 3 3 bt774.1 bt774.2.1 bt774.2.2.1 bt774.2.2.2.1 bt774.2.2.2.2.1 bt774.2.2.2.2.2).bind fun bt780 => ((computusref24_sunday.f 11 20).bind fun bt789 => ((computusref24_feast.f (⟨#[99, 104, 114, 105, 115, 116, 45, 116, 104, 101, 45, 107, 105, 110, 103]⟩ : ByteArray) 1 3 bt789.1 bt789.2.1 bt789.2.2.1 bt789.2.2.2.1 bt789.2.2.2.2.1 bt789.2.2.2.2.2).bind fun bt795 => ((some (([(⟨bt765.1, bt765.2.1, bt765.2.2.1, (⟨bt765.2.2.2.1, bt765.2.2.2.2.1, bt765.2.2.2.2.2.1, bt765.2.2.2.2.2.2.1, bt765.2.2.2.2.2.2.2.1, bt765.2.2.2.2.2.2.2.2⟩ : S31)⟩ : S35), (⟨bt780.1, bt780.2.1, bt780.2.2.1, (⟨bt780.2.2.2.1, bt780.2.2.2.2.1, bt780.2.2.2.2.2.1, bt780.2.2.2.2.2.2.1, bt780.2.2.2.2.2.2.2.1, bt780.2.2.2.2.2.2.2.2⟩ : S31)⟩ : S35), (⟨bt795.1, bt795.2.1, bt795.2.2.1, (⟨bt795.2.2.2.1, bt795.2.2.2.2.1, bt795.2.2.2.2.2.1, bt795.2.2.2.2.2.2.1, bt795.2.2.2.2.2.2.2.1, bt795.2.2.2.2.2.2.2.2⟩ : S31)⟩ : S35)] : List (S35)) : List (S35))).bind fun y804 => (if y756.length + y804.length < 1759218604441 then ((some (y756 ++ y804 : List (S35))).bind fun y807 => ((computusref24_fixed.f 11 30).bind fun bt810 => ((computusref24_feast.f (⟨#[97, 110, 100, 114, 101, 119]⟩ : ByteArray) 4 2 bt810.1 bt810.2.1 bt810.2.2.1 bt810.2.2.2.1 bt810.2.2.2.2.1 bt810.2.2.2.2.2).bind fun bt816 => ((computusref24_fixed.f 12 8).bind fun bt825 => ((computusref24_feast.f (⟨#[105, 109, 109, 97, 99, 117, 108, 97, 116, 101, 45, 99, 111, 110, 99, 101, 112, 116, 105, 111, 110]⟩ : ByteArray) 1 1 bt825.1 bt825.2.1 bt825.2.2.1 bt825.2.2.2.1 bt825.2.2.2.2.1 bt825.2.2.2.2.2).bind fun bt831 => ((some (([(⟨bt816.1, bt816.2.1, bt816.2.2.1, (⟨bt816.2.2.2.1, bt816.2.2.2.2.1, bt816.2.2.2.2.2.1, bt816.2.2.2.2.2.2.1, bt816.2.2.2.2.2.2.2.1, bt816.2.2.2.2.2.2.2.2⟩ : S31)⟩ : S35), (⟨bt831.1, bt831.2.1, bt831.2.2.1, (⟨bt831.2.2.2.1, bt831.2.2.2.2.1, bt831.2.2.2.2.2.1, bt831.2.2.2.2.2.2.1, bt831.2.2.2.2.2.2.2.1, bt831.2.2.2.2.2.2.2.2⟩ : S31)⟩ : S35)] : List (S35)) : List (S35))).bind fun y840 => (if y807.length + y840.length < 1759218604441 then ((some (y807 ++ y840 : List (S35))).bind fun y843 => ((computusref24_fixed.f 12 25).bind fun bt846 => ((computusref24_feast.f (⟨#[110, 97, 116, 105, 118, 105, 116, 121]⟩ : ByteArray) 1 2 bt846.1 bt846.2.1 bt846.2.2.1 bt846.2.2.2.1 bt846.2.2.2.2.1 bt846.2.2.2.2.2).bind fun bt852 => ((computusref24_fixed.f 12 26).bind fun bt861 => ((computusref24_feast.f (⟨#[115, 116, 101, 112, 104, 101, 110]⟩ : ByteArray) 4 2 bt861.1 bt861.2.1 bt861.2.2.1 bt861.2.2.2.1 bt861.2.2.2.2.1 bt861.2.2.2.2.2).bind fun bt867 => ((some (([(⟨bt852.1, bt852.2.1, bt852.2.2.1, (⟨bt852.2.2.2.1, bt852.2.2.2.2.1, bt852.2.2.2.2.2.1, bt852.2.2.2.2.2.2.1, bt852.2.2.2.2.2.2.2.1, bt852.2.2.2.2.2.2.2.2⟩ : S31)⟩ : S35), (⟨bt867.1, bt867.2.1, bt867.2.2.1, (⟨bt867.2.2.2.1, bt867.2.2.2.2.1, bt867.2.2.2.2.2.1, bt867.2.2.2.2.2.2.1, bt867.2.2.2.2.2.2.2.1, bt867.2.2.2.2.2.2.2.2⟩ : S31)⟩ : S35)] : List (S35)) : List (S35))).bind fun y876 => (if y843.length + y876.length < 1759218604441 then (some (5, (y408 ++ y441), (y843 ++ y876))) else (none)))))))) else (none)))))))) else (none)))))))))) else (none)))))))))) else (none)))))))) else (none)))))))) else (none)))))))))) else (none)))))))) else (none)))))))))) else (none))))))))) else (none)))))))) else (none)))))))) else (none)))))))))) else (none))
def computusref24_Catalogue.T2 : Bool × List (List Nat × List Nat) := (true, [([], []), ([0], [0]), ([], []), ([2], [2]), ([3], [3]), ([1, 4, 3], [1, 4]), ([0, 1, 2, 3, 4, 5], []), ([6, 5, 5, 0, 1, 2, 3, 4, 5], [5, 6])])
def computusref24_Catalogue.B2 : List Nat := [0, 1, 0, 4, 12, 31, 63, 127]
theorem computusref24_Catalogue.tab2 : rtab .any (opsOf Try.f9 2) = computusref24_Catalogue.T2 := by kernel_rfl
theorem computusref24_Catalogue.bits2 : waitsOk computusref24_Catalogue.T2.2 computusref24_Catalogue.B2 = true := by kernel_rfl
def computusref24_Catalogue.T3 : Bool × List (List Nat × List Nat) := (true, [([], []), ([0], [0]), ([], []), ([2, 2], [2]), ([3], []), ([4, 4], [4]), ([5], []), ([6, 6], [6]), ([3, 5, 7], [3, 5, 7]), ([1, 8, 7], [1, 8]), ([0, 1, 2, 3, 4, 5, 6, 7, 8, 9], []), ([10, 9, 9, 0, 1, 2, 3, 4, 5, 6, 7, 8, 9], [9, 10])])
def computusref24_Catalogue.B3 : List Nat := [0, 1, 0, 4, 12, 28, 60, 124, 252, 511, 1023, 2047]
theorem computusref24_Catalogue.tab3 : rtab .any (opsOf Try.f9 3) = computusref24_Catalogue.T3 := by kernel_rfl
theorem computusref24_Catalogue.bits3 : waitsOk computusref24_Catalogue.T3.2 computusref24_Catalogue.B3 = true := by kernel_rfl
def computusref24_Catalogue.T4 : Bool × List (List Nat × List Nat) := (true, [([], []), ([0], [0]), ([], []), ([2, 2], [2]), ([3], []), ([4, 4], [4]), ([3, 5], [3, 5]), ([1, 6, 5], [1, 6]), ([0, 1, 2, 3, 4, 5, 6, 7], []), ([8, 7, 7, 0, 1, 2, 3, 4, 5, 6, 7], [7, 8])])
def computusref24_Catalogue.B4 : List Nat := [0, 1, 0, 4, 12, 28, 60, 127, 255, 511]
theorem computusref24_Catalogue.tab4 : rtab .any (opsOf Try.f9 4) = computusref24_Catalogue.T4 := by kernel_rfl
theorem computusref24_Catalogue.bits4 : waitsOk computusref24_Catalogue.T4.2 computusref24_Catalogue.B4 = true := by kernel_rfl
def computusref24_Catalogue.T5 : Bool × List (List Nat × List Nat) := (true, [([], []), ([0], [0]), ([], []), ([2, 2], [2]), ([3], []), ([4, 4], [4]), ([3, 5], [3, 5]), ([1, 6, 5], [1, 6]), ([0, 1, 2, 3, 4, 5, 6, 7], []), ([8, 7, 7, 0, 1, 2, 3, 4, 5, 6, 7], [7, 8])])
def computusref24_Catalogue.B5 : List Nat := [0, 1, 0, 4, 12, 28, 60, 127, 255, 511]
theorem computusref24_Catalogue.tab5 : rtab .any (opsOf Try.f9 5) = computusref24_Catalogue.T5 := by kernel_rfl
theorem computusref24_Catalogue.bits5 : waitsOk computusref24_Catalogue.T5.2 computusref24_Catalogue.B5 = true := by kernel_rfl
def computusref24_Catalogue.T6 : Bool × List (List Nat × List Nat) := (true, [([], []), ([0], [0]), ([], []), ([2, 2], [2]), ([3], []), ([4, 4], [4]), ([5], []), ([6, 6], [6]), ([3, 5, 7], [3, 5, 7]), ([1, 8, 7], [1, 8]), ([0, 1, 2, 3, 4, 5, 6, 7, 8, 9], []), ([10, 9, 9, 0, 1, 2, 3, 4, 5, 6, 7, 8, 9], [9, 10])])
def computusref24_Catalogue.B6 : List Nat := [0, 1, 0, 4, 12, 28, 60, 124, 252, 511, 1023, 2047]
theorem computusref24_Catalogue.tab6 : rtab .any (opsOf Try.f9 6) = computusref24_Catalogue.T6 := by kernel_rfl
theorem computusref24_Catalogue.bits6 : waitsOk computusref24_Catalogue.T6.2 computusref24_Catalogue.B6 = true := by kernel_rfl
def computusref24_Catalogue.T7 : Bool × List (List Nat × List Nat) := (true, [([], []), ([0], [0]), ([], []), ([2, 2], [2]), ([3], []), ([4, 4], [4]), ([5], []), ([6, 6], [6]), ([3, 5, 7], [3, 5, 7]), ([1, 8, 7], [1, 8]), ([0, 1, 2, 3, 4, 5, 6, 7, 8, 9], []), ([10, 9, 9, 0, 1, 2, 3, 4, 5, 6, 7, 8, 9], [9, 10])])
def computusref24_Catalogue.B7 : List Nat := [0, 1, 0, 4, 12, 28, 60, 124, 252, 511, 1023, 2047]
theorem computusref24_Catalogue.tab7 : rtab .any (opsOf Try.f9 7) = computusref24_Catalogue.T7 := by kernel_rfl
theorem computusref24_Catalogue.bits7 : waitsOk computusref24_Catalogue.T7.2 computusref24_Catalogue.B7 = true := by kernel_rfl
def computusref24_Catalogue.T8 : Bool × List (List Nat × List Nat) := (true, [([], []), ([0], [0]), ([], []), ([2, 2], [2]), ([3], []), ([4, 4], [4]), ([3, 5], [3, 5]), ([1, 6, 5], [1, 6]), ([0, 1, 2, 3, 4, 5, 6, 7], []), ([8, 7, 7, 0, 1, 2, 3, 4, 5, 6, 7], [7, 8])])
def computusref24_Catalogue.B8 : List Nat := [0, 1, 0, 4, 12, 28, 60, 127, 255, 511]
theorem computusref24_Catalogue.tab8 : rtab .any (opsOf Try.f9 8) = computusref24_Catalogue.T8 := by kernel_rfl
theorem computusref24_Catalogue.bits8 : waitsOk computusref24_Catalogue.T8.2 computusref24_Catalogue.B8 = true := by kernel_rfl
def computusref24_Catalogue.T9 : Bool × List (List Nat × List Nat) := (true, [([], []), ([0], [0]), ([], []), ([2, 2], [2]), ([3], []), ([4, 4], [4]), ([5], []), ([6, 6], [6]), ([3, 5, 7], [3, 5, 7]), ([1, 8, 7], [1, 8]), ([0, 1, 2, 3, 4, 5, 6, 7, 8, 9], []), ([10, 9, 9, 0, 1, 2, 3, 4, 5, 6, 7, 8, 9], [9, 10])])
def computusref24_Catalogue.B9 : List Nat := [0, 1, 0, 4, 12, 28, 60, 124, 252, 511, 1023, 2047]
theorem computusref24_Catalogue.tab9 : rtab .any (opsOf Try.f9 9) = computusref24_Catalogue.T9 := by kernel_rfl
theorem computusref24_Catalogue.bits9 : waitsOk computusref24_Catalogue.T9.2 computusref24_Catalogue.B9 = true := by kernel_rfl
def computusref24_Catalogue.T10 : Bool × List (List Nat × List Nat) := (true, [([], []), ([0], [0]), ([], []), ([2, 2], [2]), ([3], []), ([4, 4], [4]), ([3, 5], [3, 5]), ([1, 6, 5], [1, 6]), ([0, 1, 2, 3, 4, 5, 6, 7], []), ([8, 7, 7, 0, 1, 2, 3, 4, 5, 6, 7], [7, 8])])
def computusref24_Catalogue.B10 : List Nat := [0, 1, 0, 4, 12, 28, 60, 127, 255, 511]
theorem computusref24_Catalogue.tab10 : rtab .any (opsOf Try.f9 10) = computusref24_Catalogue.T10 := by kernel_rfl
theorem computusref24_Catalogue.bits10 : waitsOk computusref24_Catalogue.T10.2 computusref24_Catalogue.B10 = true := by kernel_rfl
def computusref24_Catalogue.T11 : Bool × List (List Nat × List Nat) := (true, [([], []), ([0], [0]), ([], []), ([2, 2], [2]), ([3], []), ([4, 4], [4]), ([3, 5], [3, 5]), ([1, 6, 5], [1, 6]), ([0, 1, 2, 3, 4, 5, 6, 7], []), ([8, 7, 7, 0, 1, 2, 3, 4, 5, 6, 7], [7, 8])])
def computusref24_Catalogue.B11 : List Nat := [0, 1, 0, 4, 12, 28, 60, 127, 255, 511]
theorem computusref24_Catalogue.tab11 : rtab .any (opsOf Try.f9 11) = computusref24_Catalogue.T11 := by kernel_rfl
theorem computusref24_Catalogue.bits11 : waitsOk computusref24_Catalogue.T11.2 computusref24_Catalogue.B11 = true := by kernel_rfl
def computusref24_Catalogue.T12 : Bool × List (List Nat × List Nat) := (true, [([], []), ([0], [0]), ([], []), ([2, 2], [2]), ([3], []), ([4, 4], [4]), ([5], []), ([6, 6], [6]), ([3, 5, 7], [3, 5, 7]), ([1, 8, 7], [1, 8]), ([0, 1, 2, 3, 4, 5, 6, 7, 8, 9], []), ([10, 9, 9, 0, 1, 2, 3, 4, 5, 6, 7, 8, 9], [9, 10])])
def computusref24_Catalogue.B12 : List Nat := [0, 1, 0, 4, 12, 28, 60, 124, 252, 511, 1023, 2047]
theorem computusref24_Catalogue.tab12 : rtab .any (opsOf Try.f9 12) = computusref24_Catalogue.T12 := by kernel_rfl
theorem computusref24_Catalogue.bits12 : waitsOk computusref24_Catalogue.T12.2 computusref24_Catalogue.B12 = true := by kernel_rfl
def computusref24_Catalogue.T13 : Bool × List (List Nat × List Nat) := (true, [([], []), ([0], [0]), ([], []), ([2, 2], [2]), ([3], []), ([4, 4], [4]), ([5], []), ([6, 6], [6]), ([3, 5, 7], [3, 5, 7]), ([1, 8, 7], [1, 8]), ([0, 1, 2, 3, 4, 5, 6, 7, 8, 9], []), ([10, 9, 9, 0, 1, 2, 3, 4, 5, 6, 7, 8, 9], [9, 10])])
def computusref24_Catalogue.B13 : List Nat := [0, 1, 0, 4, 12, 28, 60, 124, 252, 511, 1023, 2047]
theorem computusref24_Catalogue.tab13 : rtab .any (opsOf Try.f9 13) = computusref24_Catalogue.T13 := by kernel_rfl
theorem computusref24_Catalogue.bits13 : waitsOk computusref24_Catalogue.T13.2 computusref24_Catalogue.B13 = true := by kernel_rfl
def computusref24_Catalogue.T14 : Bool × List (List Nat × List Nat) := (true, [([], []), ([0], [0]), ([], []), ([2, 2], [2]), ([3], []), ([4, 4], [4]), ([3, 5], [3, 5]), ([1, 6, 5], [1, 6]), ([0, 1, 2, 3, 4, 5, 6, 7], []), ([8, 7, 7, 0, 1, 2, 3, 4, 5, 6, 7], [7, 8])])
def computusref24_Catalogue.B14 : List Nat := [0, 1, 0, 4, 12, 28, 60, 127, 255, 511]
theorem computusref24_Catalogue.tab14 : rtab .any (opsOf Try.f9 14) = computusref24_Catalogue.T14 := by kernel_rfl
theorem computusref24_Catalogue.bits14 : waitsOk computusref24_Catalogue.T14.2 computusref24_Catalogue.B14 = true := by kernel_rfl
def computusref24_Catalogue.T15 : Bool × List (List Nat × List Nat) := (true, [([], []), ([0], [0]), ([], []), ([2, 2], [2]), ([3], []), ([4, 4], [4]), ([3, 5], [3, 5]), ([1, 6, 5], [1, 6]), ([0, 1, 2, 3, 4, 5, 6, 7], []), ([8, 7, 7, 0, 1, 2, 3, 4, 5, 6, 7], [7, 8])])
def computusref24_Catalogue.B15 : List Nat := [0, 1, 0, 4, 12, 28, 60, 127, 255, 511]
theorem computusref24_Catalogue.tab15 : rtab .any (opsOf Try.f9 15) = computusref24_Catalogue.T15 := by kernel_rfl
theorem computusref24_Catalogue.bits15 : waitsOk computusref24_Catalogue.T15.2 computusref24_Catalogue.B15 = true := by kernel_rfl
set_option maxHeartbeats 8000000 in
set_option maxRecDepth 100000 in
theorem computusref24_Catalogue.calls  (r1 : Int) (r2 : List (S33)) (r3 : List (S35)) (w : World) (h : computusref24_Catalogue.f  = some (r1, r2, r3)) :
  Calls Try.prog 9 #[] w fun e w' => ∃ v1_ v2_ : Value, e = .returned (.agg #[.int .i64 r1, v1_, v2_]) ∧ Kd.R k33 33 w' w.heap.size (fun _ => True) v1_ r2 ∧ Kd.R k35 35 w' w.heap.size (fun _ => True) v2_ r3 ∧ Below w.heap.size w w' := by
 have hu26 := Try.underlying26
 have hu31 := Try.underlying31
 have HB := am_ (Below.refl w.heap.size w)
 have H := h
 clear h
 unfold computusref24_Catalogue.f at H
 obtain ⟨⟨t312, t313, t314, t315, t316, t317, t318, t319, t320⟩, A1, H⟩ := bs_ H
 dsimp only at H
 by_cases c2 : ([] : List (S33)).length < 1759218604441
 rotate_left
 ·rw [if_neg c2] at H
  exact absurd H (by simp)
 rw [if_pos c2] at H
 have LMc2 := am_ c2
 clear c2
 obtain ⟨y321, hy321, H⟩ := bv_ H
 have Ny321 := am_ hy321
 clear hy321
 obtain ⟨⟨t324, t325, t326, t327, t328, t329⟩, A3, H⟩ := bs_ H
 dsimp only at H
 obtain ⟨⟨t330, t331, t332, t333, t334, t335, t336, t337, t338⟩, A4, H⟩ := bs_ H
 dsimp only at H
 obtain ⟨⟨t339, t340, t341, t342, t343, t344⟩, A5, H⟩ := bs_ H
 dsimp only at H
 obtain ⟨⟨t345, t346, t347, t348, t349, t350, t351, t352, t353⟩, A6, H⟩ := bs_ H
 dsimp only at H
 obtain ⟨⟨t354, t355, t356, t357, t358, t359⟩, A7, H⟩ := bs_ H
 dsimp only at H
 obtain ⟨⟨t360, t361, t362, t363, t364, t365, t366, t367, t368⟩, A8, H⟩ := bs_ H
 dsimp only at H
 obtain ⟨y369, hy369, H⟩ := bv_ H
 have Ny369 := am_ hy369
 clear hy369
 by_cases c9 : y321.length + y369.length < 1759218604441
 rotate_left
 ·rw [if_neg c9] at H
  exact absurd H (by simp)
 rw [if_pos c9] at H
 have LMc9 := am_ c9
 clear c9
 obtain ⟨y372, hy372, H⟩ := bv_ H
 have Ny372 := am_ hy372
 clear hy372
 obtain ⟨⟨t375, t376, t377, t378, t379, t380⟩, A10, H⟩ := bs_ H
 dsimp only at H
 obtain ⟨⟨t381, t382, t383, t384, t385, t386, t387, t388, t389⟩, A11, H⟩ := bs_ H
 dsimp only at H
 obtain ⟨⟨t390, t391, t392, t393, t394, t395⟩, A12, H⟩ := bs_ H
 dsimp only at H
 obtain ⟨⟨t396, t397, t398, t399, t400, t401, t402, t403, t404⟩, A13, H⟩ := bs_ H
 dsimp only at H
 obtain ⟨y405, hy405, H⟩ := bv_ H
 have Ny405 := am_ hy405
 clear hy405
 by_cases c14 : y372.length + y405.length < 1759218604441
 rotate_left
 ·rw [if_neg c14] at H
  exact absurd H (by simp)
 rw [if_pos c14] at H
 have LMc14 := am_ c14
 clear c14
 obtain ⟨y408, hy408, H⟩ := bv_ H
 have Ny408 := am_ hy408
 clear hy408
 obtain ⟨⟨t411, t412, t413, t414, t415, t416⟩, A15, H⟩ := bs_ H
 dsimp only at H
 obtain ⟨⟨t417, t418, t419, t420, t421, t422, t423, t424, t425⟩, A16, H⟩ := bs_ H
 dsimp only at H
 obtain ⟨⟨t426, t427, t428, t429, t430, t431⟩, A17, H⟩ := bs_ H
 dsimp only at H
 obtain ⟨⟨t432, t433, t434, t435, t436, t437, t438, t439, t440⟩, A18, H⟩ := bs_ H
 dsimp only at H
 obtain ⟨y441, hy441, H⟩ := bv_ H
 have Ny441 := am_ hy441
 clear hy441
 by_cases c19 : y408.length + y441.length < 1759218604441
 rotate_left
 ·rw [if_neg c19] at H
  exact absurd H (by simp)
 rw [if_pos c19] at H
 have LMc19 := am_ c19
 clear c19
 obtain ⟨y444, hy444⟩ : ∃ y_ : List (S33), y_ = (y408 ++ y441) := ⟨_, rfl⟩
 replace H : ((computusref24_fixed.f 1 1).bind fun bt447 => ((computusref24_feast.f (⟨#[109, 97, 114, 121, 45, 109, 111, 116, 104, 101, 114, 45, 111, 102, 45, 103, 111, 100]⟩ : ByteArray) 1 2 bt447.1 bt447.2.1 bt447.2.2.1 bt447.2.2.2.1 bt447.2.2.2.2.1 bt447.2.2.2.2.2).bind fun bt453 => ((computusref24_fixed.f 1 6).bind fun bt462 => ((computusref24_feast.f (⟨#[101, 112, 105, 112, 104, 97, 110, 121]⟩ : ByteArray) 1 2 bt462.1 bt462.2.1 bt462.2.2.1 bt462.2.2.2.1 bt462.2.2.2.2.1 bt462.2.2.2.2.2).bind fun bt468 => ((computusref24_sunday.f 1 7).bind fun bt477 => ((computusref24_feast.f (⟨#[98, 97, 112, 116, 105, 115, 109, 45, 111, 102, 45, 116, 104, 101, 45, 108, 111, 114, 100]⟩ : ByteArray) 2 3 bt477.1 bt477.2.1 bt477.2.2.1 bt477.2.2.2.1 bt477.2.2.2.2.1 bt477.2.2.2.2.2).bind fun bt483 => ((some (([(⟨bt453.1, bt453.2.1, bt453.2.2.1, (⟨bt453.2.2.2.1, bt453.2.2.2.2.1, bt453.2.2.2.2.2.1, bt453.2.2.2.2.2.2.1, bt453.2.2.2.2.2.2.2.1, bt453.2.2.2.2.2.2.2.2⟩ : S31)⟩ : S35), (⟨bt468.1, bt468.2.1, bt468.2.2.1, (⟨bt468.2.2.2.1, bt468.2.2.2.2.1, bt468.2.2.2.2.2.1, bt468.2.2.2.2.2.2.1, bt468.2.2.2.2.2.2.2.1, bt468.2.2.2.2.2.2.2.2⟩ : S31)⟩ : S35), (⟨bt483.1, bt483.2.1, bt483.2.2.1, (⟨bt483.2.2.2.1, bt483.2.2.2.2.1, bt483.2.2.2.2.2.1, bt483.2.2.2.2.2.2.1, bt483.2.2.2.2.2.2.2.1, bt483.2.2.2.2.2.2.2.2⟩ : S31)⟩ : S35)] : List (S35)) : List (S35))).bind fun y492 => (if ([] : List (S35)).length + y492.length < 1759218604441 then ((some (([] : List (S35)) ++ y492 : List (S35))).bind fun y495 => ((computusref24_fixed.f 1 25).bind fun bt498 => ((computusref24_feast.f (⟨#[99, 111, 110, 118, 101, 114, 115, 105, 111, 110, 45, 111, 102, 45, 112, 97, 117, 108]⟩ : ByteArray) 4 3 bt498.1 bt498.2.1 bt498.2.2.1 bt498.2.2.2.1 bt498.2.2.2.2.1 bt498.2.2.2.2.2).bind fun bt504 => ((computusref24_fixed.f 2 2).bind fun bt513 => ((computusref24_feast.f (⟨#[112, 114, 101, 115, 101, 110, 116, 97, 116, 105, 111, 110]⟩ : ByteArray) 2 3 bt513.1 bt513.2.1 bt513.2.2.1 bt513.2.2.2.1 bt513.2.2.2.2.1 bt513.2.2.2.2.2).bind fun bt519 => ((computusref24_fixed.f 2 22).bind fun bt528 => ((computusref24_feast.f (⟨#[99, 104, 97, 105, 114, 45, 111, 102, 45, 112, 101, 116, 101, 114]⟩ : ByteArray) 4 2 bt528.1 bt528.2.1 bt528.2.2.1 bt528.2.2.2.1 bt528.2.2.2.2.1 bt528.2.2.2.2.2).bind fun bt534 => ((some (([(⟨bt504.1, bt504.2.1, bt504.2.2.1, (⟨bt504.2.2.2.1, bt504.2.2.2.2.1, bt504.2.2.2.2.2.1, bt504.2.2.2.2.2.2.1, bt504.2.2.2.2.2.2.2.1, bt504.2.2.2.2.2.2.2.2⟩ : S31)⟩ : S35), (⟨bt519.1, bt519.2.1, bt519.2.2.1, (⟨bt519.2.2.2.1, bt519.2.2.2.2.1, bt519.2.2.2.2.2.1, bt519.2.2.2.2.2.2.1, bt519.2.2.2.2.2.2.2.1, bt519.2.2.2.2.2.2.2.2⟩ : S31)⟩ : S35), (⟨bt534.1, bt534.2.1, bt534.2.2.1, (⟨bt534.2.2.2.1, bt534.2.2.2.2.1, bt534.2.2.2.2.2.1, bt534.2.2.2.2.2.2.1, bt534.2.2.2.2.2.2.2.1, bt534.2.2.2.2.2.2.2.2⟩ : S31)⟩ : S35)] : List (S35)) : List (S35))).bind fun y543 => (if y495.length + y543.length < 1759218604441 then ((some (y495 ++ y543 : List (S35))).bind fun y546 => ((computusref24_fixed.f 3 19).bind fun bt549 => ((computusref24_feast.f (⟨#[106, 111, 115, 101, 112, 104]⟩ : ByteArray) 1 1 bt549.1 bt549.2.1 bt549.2.2.1 bt549.2.2.2.1 bt549.2.2.2.2.1 bt549.2.2.2.2.2).bind fun bt555 => ((computusref24_fixed.f 3 25).bind fun bt564 => ((computusref24_feast.f (⟨#[97, 110, 110, 117, 110, 99, 105, 97, 116, 105, 111, 110]⟩ : ByteArray) 1 1 bt564.1 bt564.2.1 bt564.2.2.1 bt564.2.2.2.1 bt564.2.2.2.2.1 bt564.2.2.2.2.2).bind fun bt570 => ((some (([(⟨bt555.1, bt555.2.1, bt555.2.2.1, (⟨bt555.2.2.2.1, bt555.2.2.2.2.1, bt555.2.2.2.2.2.1, bt555.2.2.2.2.2.2.1, bt555.2.2.2.2.2.2.2.1, bt555.2.2.2.2.2.2.2.2⟩ : S31)⟩ : S35), (⟨bt570.1, bt570.2.1, bt570.2.2.1, (⟨bt570.2.2.2.1, bt570.2.2.2.2.1, bt570.2.2.2.2.2.1, bt570.2.2.2.2.2.2.1, bt570.2.2.2.2.2.2.2.1, bt570.2.2.2.2.2.2.2.2⟩ : S31)⟩ : S35)] : List (S35)) : List (S35))).bind fun y579 => (if y546.length + y579.length < 1759218604441 then ((some (y546 ++ y579 : List (S35))).bind fun y582 => ((computusref24_paschal.f 39).bind fun bt585 => ((computusref24_feast.f (⟨#[97, 115, 99, 101, 110, 115, 105, 111, 110]⟩ : ByteArray) 1 2 bt585.1 bt585.2.1 bt585.2.2.1 bt585.2.2.2.1 bt585.2.2.2.2.1 bt585.2.2.2.2.2).bind fun bt591 => ((computusref24_paschal.f 49).bind fun bt600 => ((computusref24_feast.f (⟨#[112, 101, 110, 116, 101, 99, 111, 115, 116]⟩ : ByteArray) 1 2 bt600.1 bt600.2.1 bt600.2.2.1 bt600.2.2.2.1 bt600.2.2.2.2.1 bt600.2.2.2.2.2).bind fun bt606 => ((computusref24_paschal.f 56).bind fun bt615 => ((computusref24_feast.f (⟨#[116, 114, 105, 110, 105, 116, 121]⟩ : ByteArray) 1 2 bt615.1 bt615.2.1 bt615.2.2.1 bt615.2.2.2.1 bt615.2.2.2.2.1 bt615.2.2.2.2.2).bind fun bt621 => ((some (([(⟨bt591.1, bt591.2.1, bt591.2.2.1, (⟨bt591.2.2.2.1, bt591.2.2.2.2.1, bt591.2.2.2.2.2.1, bt591.2.2.2.2.2.2.1, bt591.2.2.2.2.2.2.2.1, bt591.2.2.2.2.2.2.2.2⟩ : S31)⟩ : S35), (⟨bt606.1, bt606.2.1, bt606.2.2.1, (⟨bt606.2.2.2.1, bt606.2.2.2.2.1, bt606.2.2.2.2.2.1, bt606.2.2.2.2.2.2.1, bt606.2.2.2.2.2.2.2.1, bt606.2.2.2.2.2.2.2.2⟩ : S31)⟩ : S35), (⟨bt621.1, bt621.2.1, bt621.2.2.1, (⟨bt621.2.2.2.1, bt621.2.2.2.2.1, bt621.2.2.2.2.2.1, bt621.2.2.2.2.2.2.1, bt621.2.2.2.2.2.2.2.1, bt621.2.2.2.2.2.2.2.2⟩ : S31)⟩ : S35)] : List (S35)) : List (S35))).bind fun y630 => (if y582.length + y630.length < 1759218604441 then ((some (y582 ++ y630 : List (S35))).bind fun y633 => ((computusref24_paschal.f 60).bind fun bt636 => ((computusref24_feast.f (⟨#[99, 111, 114, 112, 117, 115, 45, 99, 104, 114, 105, 115, 116, 105]⟩ : ByteArray) 1 2 bt636.1 bt636.2.1 bt636.2.2.1 bt636.2.2.2.1 bt636.2.2.2.2.1 bt636.2.2.2.2.2).bind fun bt642 => ((computusref24_paschal.f 68).bind fun bt651 => ((computusref24_feast.f (⟨#[115, 97, 99, 114, 101, 100, 45, 104, 101, 97, 114, 116]⟩ : ByteArray) 1 2 bt651.1 bt651.2.1 bt651.2.2.1 bt651.2.2.2.1 bt651.2.2.2.2.1 bt651.2.2.2.2.2).bind fun bt657 => ((some (([(⟨bt642.1, bt642.2.1, bt642.2.2.1, (⟨bt642.2.2.2.1, bt642.2.2.2.2.1, bt642.2.2.2.2.2.1, bt642.2.2.2.2.2.2.1, bt642.2.2.2.2.2.2.2.1, bt642.2.2.2.2.2.2.2.2⟩ : S31)⟩ : S35), (⟨bt657.1, bt657.2.1, bt657.2.2.1, (⟨bt657.2.2.2.1, bt657.2.2.2.2.1, bt657.2.2.2.2.2.1, bt657.2.2.2.2.2.2.1, bt657.2.2.2.2.2.2.2.1, bt657.2.2.2.2.2.2.2.2⟩ : S31)⟩ : S35)] : List (S35)) : List (S35))).bind fun y666 => (if y633.length + y666.length < 1759218604441 then ((some (y633 ++ y666 : List (S35))).bind fun y669 => ((computusref24_fixed.f 6 24).bind fun bt672 => ((computusref24_feast.f (⟨#[106, 111, 104, 110, 45, 98, 97, 112, 116, 105, 115, 116]⟩ : ByteArray) 1 1 bt672.1 bt672.2.1 bt672.2.2.1 bt672.2.2.2.1 bt672.2.2.2.2.1 bt672.2.2.2.2.2).bind fun bt678 => ((computusref24_fixed.f 6 29).bind fun bt687 => ((computusref24_feast.f (⟨#[112, 101, 116, 101, 114, 45, 97, 110, 100, 45, 112, 97, 117, 108]⟩ : ByteArray) 1 1 bt687.1 bt687.2.1 bt687.2.2.1 bt687.2.2.2.1 bt687.2.2.2.2.1 bt687.2.2.2.2.2).bind fun bt693 => ((some (([(⟨bt678.1, bt678.2.1, bt678.2.2.1, (⟨bt678.2.2.2.1, bt678.2.2.2.2.1, bt678.2.2.2.2.2.1, bt678.2.2.2.2.2.2.1, bt678.2.2.2.2.2.2.2.1, bt678.2.2.2.2.2.2.2.2⟩ : S31)⟩ : S35), (⟨bt693.1, bt693.2.1, bt693.2.2.1, (⟨bt693.2.2.2.1, bt693.2.2.2.2.1, bt693.2.2.2.2.2.1, bt693.2.2.2.2.2.2.1, bt693.2.2.2.2.2.2.2.1, bt693.2.2.2.2.2.2.2.2⟩ : S31)⟩ : S35)] : List (S35)) : List (S35))).bind fun y702 => (if y669.length + y702.length < 1759218604441 then ((some (y669 ++ y702 : List (S35))).bind fun y705 => ((computusref24_fixed.f 8 6).bind fun bt708 => ((computusref24_feast.f (⟨#[116, 114, 97, 110, 115, 102, 105, 103, 117, 114, 97, 116, 105, 111, 110]⟩ : ByteArray) 2 3 bt708.1 bt708.2.1 bt708.2.2.1 bt708.2.2.2.1 bt708.2.2.2.2.1 bt708.2.2.2.2.2).bind fun bt714 => ((computusref24_fixed.f 8 15).bind fun bt723 => ((computusref24_feast.f (⟨#[97, 115, 115, 117, 109, 112, 116, 105, 111, 110]⟩ : ByteArray) 1 2 bt723.1 bt723.2.1 bt723.2.2.1 bt723.2.2.2.1 bt723.2.2.2.2.1 bt723.2.2.2.2.2).bind fun bt729 => ((computusref24_fixed.f 9 14).bind fun bt738 => ((computusref24_feast.f (⟨#[101, 120, 97, 108, 116, 97, 116, 105, 111, 110, 45, 111, 102, 45, 116, 104, 101, 45, 99, 114, 111, 115, 115]⟩ : ByteArray) 2 3 bt738.1 bt738.2.1 bt738.2.2.1 bt738.2.2.2.1 bt738.2.2.2.2.1 bt738.2.2.2.2.2).bind fun bt744 => ((some (([(⟨bt714.1, bt714.2.1, bt714.2.2.1, (⟨bt714.2.2.2.1, bt714.2.2.2.2.1, bt714.2.2.2.2.2.1, bt714.2.2.2.2.2.2.1, bt714.2.2.2.2.2.2.2.1, bt714.2.2.2.2.2.2.2.2⟩ : S31)⟩ : S35), (⟨bt729.1, bt729.2.1, bt729.2.2.1, (⟨bt729.2.2.2.1, bt729.2.2.2.2.1, bt729.2.2.2.2.2.1, bt729.2.2.2.2.2.2.1, bt729.2.2.2.2.2.2.2.1, bt729.2.2.2.2.2.2.2.2⟩ : S31)⟩ : S35), (⟨bt744.1, bt744.2.1, bt744.2.2.1, (⟨bt744.2.2.2.1, bt744.2.2.2.2.1, bt744.2.2.2.2.2.1, bt744.2.2.2.2.2.2.1, bt744.2.2.2.2.2.2.2.1, bt744.2.2.2.2.2.2.2.2⟩ : S31)⟩ : S35)] : List (S35)) : List (S35))).bind fun y753 => (if y705.length + y753.length < 1759218604441 then ((some (y705 ++ y753 : List (S35))).bind fun y756 => ((computusref24_fixed.f 11 1).bind fun bt759 => ((computusref24_feast.f (⟨#[97, 108, 108, 45, 115, 97, 105, 110, 116, 115]⟩ : ByteArray) 1 2 bt759.1 bt759.2.1 bt759.2.2.1 bt759.2.2.2.1 bt759.2.2.2.2.1 bt759.2.2.2.2.2).bind fun bt765 => ((computusref24_fixed.f 11 2).bind fun bt774 => ((computusref24_feast.f (⟨#[97, 108, 108, 45, 115, 111, 117, 108, 115]⟩ : ByteArray) 3 3 bt774.1 bt774.2.1 bt774.2.2.1 bt774.2.2.2.1 bt774.2.2.2.2.1 bt774.2.2.2.2.2).bind fun bt780 => ((computusref24_sunday.f 11 20).bind fun bt789 => ((computusref24_feast.f (⟨#[99, 104, 114, 105, 115, 116, 45, 116, 104, 101, 45, 107, 105, 110, 103]⟩ : ByteArray) 1 3 bt789.1 bt789.2.1 bt789.2.2.1 bt789.2.2.2.1 bt789.2.2.2.2.1 bt789.2.2.2.2.2).bind fun bt795 => ((some (([(⟨bt765.1, bt765.2.1, bt765.2.2.1, (⟨bt765.2.2.2.1, bt765.2.2.2.2.1, bt765.2.2.2.2.2.1, bt765.2.2.2.2.2.2.1, bt765.2.2.2.2.2.2.2.1, bt765.2.2.2.2.2.2.2.2⟩ : S31)⟩ : S35), (⟨bt780.1, bt780.2.1, bt780.2.2.1, (⟨bt780.2.2.2.1, bt780.2.2.2.2.1, bt780.2.2.2.2.2.1, bt780.2.2.2.2.2.2.1, bt780.2.2.2.2.2.2.2.1, bt780.2.2.2.2.2.2.2.2⟩ : S31)⟩ : S35), (⟨bt795.1, bt795.2.1, bt795.2.2.1, (⟨bt795.2.2.2.1, bt795.2.2.2.2.1, bt795.2.2.2.2.2.1, bt795.2.2.2.2.2.2.1, bt795.2.2.2.2.2.2.2.1, bt795.2.2.2.2.2.2.2.2⟩ : S31)⟩ : S35)] : List (S35)) : List (S35))).bind fun y804 => (if y756.length + y804.length < 1759218604441 then ((some (y756 ++ y804 : List (S35))).bind fun y807 => ((computusref24_fixed.f 11 30).bind fun bt810 => ((computusref24_feast.f (⟨#[97, 110, 100, 114, 101, 119]⟩ : ByteArray) 4 2 bt810.1 bt810.2.1 bt810.2.2.1 bt810.2.2.2.1 bt810.2.2.2.2.1 bt810.2.2.2.2.2).bind fun bt816 => ((computusref24_fixed.f 12 8).bind fun bt825 => ((computusref24_feast.f (⟨#[105, 109, 109, 97, 99, 117, 108, 97, 116, 101, 45, 99, 111, 110, 99, 101, 112, 116, 105, 111, 110]⟩ : ByteArray) 1 1 bt825.1 bt825.2.1 bt825.2.2.1 bt825.2.2.2.1 bt825.2.2.2.2.1 bt825.2.2.2.2.2).bind fun bt831 => ((some (([(⟨bt816.1, bt816.2.1, bt816.2.2.1, (⟨bt816.2.2.2.1, bt816.2.2.2.2.1, bt816.2.2.2.2.2.1, bt816.2.2.2.2.2.2.1, bt816.2.2.2.2.2.2.2.1, bt816.2.2.2.2.2.2.2.2⟩ : S31)⟩ : S35), (⟨bt831.1, bt831.2.1, bt831.2.2.1, (⟨bt831.2.2.2.1, bt831.2.2.2.2.1, bt831.2.2.2.2.2.1, bt831.2.2.2.2.2.2.1, bt831.2.2.2.2.2.2.2.1, bt831.2.2.2.2.2.2.2.2⟩ : S31)⟩ : S35)] : List (S35)) : List (S35))).bind fun y840 => (if y807.length + y840.length < 1759218604441 then ((some (y807 ++ y840 : List (S35))).bind fun y843 => ((computusref24_fixed.f 12 25).bind fun bt846 => ((computusref24_feast.f (⟨#[110, 97, 116, 105, 118, 105, 116, 121]⟩ : ByteArray) 1 2 bt846.1 bt846.2.1 bt846.2.2.1 bt846.2.2.2.1 bt846.2.2.2.2.1 bt846.2.2.2.2.2).bind fun bt852 => ((computusref24_fixed.f 12 26).bind fun bt861 => ((computusref24_feast.f (⟨#[115, 116, 101, 112, 104, 101, 110]⟩ : ByteArray) 4 2 bt861.1 bt861.2.1 bt861.2.2.1 bt861.2.2.2.1 bt861.2.2.2.2.1 bt861.2.2.2.2.2).bind fun bt867 => ((some (([(⟨bt852.1, bt852.2.1, bt852.2.2.1, (⟨bt852.2.2.2.1, bt852.2.2.2.2.1, bt852.2.2.2.2.2.1, bt852.2.2.2.2.2.2.1, bt852.2.2.2.2.2.2.2.1, bt852.2.2.2.2.2.2.2.2⟩ : S31)⟩ : S35), (⟨bt867.1, bt867.2.1, bt867.2.2.1, (⟨bt867.2.2.2.1, bt867.2.2.2.2.1, bt867.2.2.2.2.2.1, bt867.2.2.2.2.2.2.1, bt867.2.2.2.2.2.2.2.1, bt867.2.2.2.2.2.2.2.2⟩ : S31)⟩ : S35)] : List (S35)) : List (S35))).bind fun y876 => (if y843.length + y876.length < 1759218604441 then (some (5, y444, (y843 ++ y876))) else (none)))))))) else (none)))))))) else (none)))))))))) else (none)))))))))) else (none)))))))) else (none)))))))) else (none)))))))))) else (none)))))))) else (none)))))))))) else (none))))))))) = some (r1, r2, r3) := by first | (rw [hy444]; with_reducible exact H) | (have H2_ := (Option.bind_some _ _).symm.trans H; rw [hy444]; with_reducible exact H2_) | (have H2_ := (Option.bind_some _ _).symm.trans H; with_reducible exact H2_) | with_reducible exact H | (rw [hy444]; exact H) | exact H
 have Ny444 := am_ hy444
 clear hy444
 obtain ⟨⟨t447, t448, t449, t450, t451, t452⟩, A20, H⟩ := bs_ H
 dsimp only at H
 obtain ⟨⟨t453, t454, t455, t456, t457, t458, t459, t460, t461⟩, A21, H⟩ := bs_ H
 dsimp only at H
 obtain ⟨⟨t462, t463, t464, t465, t466, t467⟩, A22, H⟩ := bs_ H
 dsimp only at H
 obtain ⟨⟨t468, t469, t470, t471, t472, t473, t474, t475, t476⟩, A23, H⟩ := bs_ H
 dsimp only at H
 obtain ⟨⟨t477, t478, t479, t480, t481, t482⟩, A24, H⟩ := bs_ H
 dsimp only at H
 obtain ⟨⟨t483, t484, t485, t486, t487, t488, t489, t490, t491⟩, A25, H⟩ := bs_ H
 dsimp only at H
 obtain ⟨y492, hy492, H⟩ := bv_ H
 have Ny492 := am_ hy492
 clear hy492
 by_cases c26 : ([] : List (S35)).length + y492.length < 1759218604441
 rotate_left
 ·rw [if_neg c26] at H
  exact absurd H (by simp)
 rw [if_pos c26] at H
 have LMc26 := am_ c26
 clear c26
 obtain ⟨y495, hy495, H⟩ := bv_ H
 have Ny495 := am_ hy495
 clear hy495
 obtain ⟨⟨t498, t499, t500, t501, t502, t503⟩, A27, H⟩ := bs_ H
 dsimp only at H
 obtain ⟨⟨t504, t505, t506, t507, t508, t509, t510, t511, t512⟩, A28, H⟩ := bs_ H
 dsimp only at H
 obtain ⟨⟨t513, t514, t515, t516, t517, t518⟩, A29, H⟩ := bs_ H
 dsimp only at H
 obtain ⟨⟨t519, t520, t521, t522, t523, t524, t525, t526, t527⟩, A30, H⟩ := bs_ H
 dsimp only at H
 obtain ⟨⟨t528, t529, t530, t531, t532, t533⟩, A31, H⟩ := bs_ H
 dsimp only at H
 obtain ⟨⟨t534, t535, t536, t537, t538, t539, t540, t541, t542⟩, A32, H⟩ := bs_ H
 dsimp only at H
 obtain ⟨y543, hy543, H⟩ := bv_ H
 have Ny543 := am_ hy543
 clear hy543
 by_cases c33 : y495.length + y543.length < 1759218604441
 rotate_left
 ·rw [if_neg c33] at H
  exact absurd H (by simp)
 rw [if_pos c33] at H
 have LMc33 := am_ c33
 clear c33
 obtain ⟨y546, hy546, H⟩ := bv_ H
 have Ny546 := am_ hy546
 clear hy546
 obtain ⟨⟨t549, t550, t551, t552, t553, t554⟩, A34, H⟩ := bs_ H
 dsimp only at H
 obtain ⟨⟨t555, t556, t557, t558, t559, t560, t561, t562, t563⟩, A35, H⟩ := bs_ H
 dsimp only at H
 obtain ⟨⟨t564, t565, t566, t567, t568, t569⟩, A36, H⟩ := bs_ H
 dsimp only at H
 obtain ⟨⟨t570, t571, t572, t573, t574, t575, t576, t577, t578⟩, A37, H⟩ := bs_ H
 dsimp only at H
 obtain ⟨y579, hy579, H⟩ := bv_ H
 have Ny579 := am_ hy579
 clear hy579
 by_cases c38 : y546.length + y579.length < 1759218604441
 rotate_left
 ·rw [if_neg c38] at H
  exact absurd H (by simp)
 rw [if_pos c38] at H
 have LMc38 := am_ c38
 clear c38
 obtain ⟨y582, hy582, H⟩ := bv_ H
 have Ny582 := am_ hy582
 clear hy582
 obtain ⟨⟨t585, t586, t587, t588, t589, t590⟩, A39, H⟩ := bs_ H
 dsimp only at H
 obtain ⟨⟨t591, t592, t593, t594, t595, t596, t597, t598, t599⟩, A40, H⟩ := bs_ H
 dsimp only at H
 obtain ⟨⟨t600, t601, t602, t603, t604, t605⟩, A41, H⟩ := bs_ H
 dsimp only at H
 obtain ⟨⟨t606, t607, t608, t609, t610, t611, t612, t613, t614⟩, A42, H⟩ := bs_ H
 dsimp only at H
 obtain ⟨⟨t615, t616, t617, t618, t619, t620⟩, A43, H⟩ := bs_ H
 dsimp only at H
 obtain ⟨⟨t621, t622, t623, t624, t625, t626, t627, t628, t629⟩, A44, H⟩ := bs_ H
 dsimp only at H
 obtain ⟨y630, hy630, H⟩ := bv_ H
 have Ny630 := am_ hy630
 clear hy630
 by_cases c45 : y582.length + y630.length < 1759218604441
 rotate_left
 ·rw [if_neg c45] at H
  exact absurd H (by simp)
 rw [if_pos c45] at H
 have LMc45 := am_ c45
 clear c45
 obtain ⟨y633, hy633, H⟩ := bv_ H
 have Ny633 := am_ hy633
 clear hy633
 obtain ⟨⟨t636, t637, t638, t639, t640, t641⟩, A46, H⟩ := bs_ H
 dsimp only at H
 obtain ⟨⟨t642, t643, t644, t645, t646, t647, t648, t649, t650⟩, A47, H⟩ := bs_ H
 dsimp only at H
 obtain ⟨⟨t651, t652, t653, t654, t655, t656⟩, A48, H⟩ := bs_ H
 dsimp only at H
 obtain ⟨⟨t657, t658, t659, t660, t661, t662, t663, t664, t665⟩, A49, H⟩ := bs_ H
 dsimp only at H
 obtain ⟨y666, hy666, H⟩ := bv_ H
 have Ny666 := am_ hy666
 clear hy666
 by_cases c50 : y633.length + y666.length < 1759218604441
 rotate_left
 ·rw [if_neg c50] at H
  exact absurd H (by simp)
 rw [if_pos c50] at H
 have LMc50 := am_ c50
 clear c50
 obtain ⟨y669, hy669, H⟩ := bv_ H
 have Ny669 := am_ hy669
 clear hy669
 obtain ⟨⟨t672, t673, t674, t675, t676, t677⟩, A51, H⟩ := bs_ H
 dsimp only at H
 obtain ⟨⟨t678, t679, t680, t681, t682, t683, t684, t685, t686⟩, A52, H⟩ := bs_ H
 dsimp only at H
 obtain ⟨⟨t687, t688, t689, t690, t691, t692⟩, A53, H⟩ := bs_ H
 dsimp only at H
 obtain ⟨⟨t693, t694, t695, t696, t697, t698, t699, t700, t701⟩, A54, H⟩ := bs_ H
 dsimp only at H
 obtain ⟨y702, hy702, H⟩ := bv_ H
 have Ny702 := am_ hy702
 clear hy702
 by_cases c55 : y669.length + y702.length < 1759218604441
 rotate_left
 ·rw [if_neg c55] at H
  exact absurd H (by simp)
 rw [if_pos c55] at H
 have LMc55 := am_ c55
 clear c55
 obtain ⟨y705, hy705, H⟩ := bv_ H
 have Ny705 := am_ hy705
 clear hy705
 obtain ⟨⟨t708, t709, t710, t711, t712, t713⟩, A56, H⟩ := bs_ H
 dsimp only at H
 obtain ⟨⟨t714, t715, t716, t717, t718, t719, t720, t721, t722⟩, A57, H⟩ := bs_ H
 dsimp only at H
 obtain ⟨⟨t723, t724, t725, t726, t727, t728⟩, A58, H⟩ := bs_ H
 dsimp only at H
 obtain ⟨⟨t729, t730, t731, t732, t733, t734, t735, t736, t737⟩, A59, H⟩ := bs_ H
 dsimp only at H
 obtain ⟨⟨t738, t739, t740, t741, t742, t743⟩, A60, H⟩ := bs_ H
 dsimp only at H
 obtain ⟨⟨t744, t745, t746, t747, t748, t749, t750, t751, t752⟩, A61, H⟩ := bs_ H
 dsimp only at H
 obtain ⟨y753, hy753, H⟩ := bv_ H
 have Ny753 := am_ hy753
 clear hy753
 by_cases c62 : y705.length + y753.length < 1759218604441
 rotate_left
 ·rw [if_neg c62] at H
  exact absurd H (by simp)
 rw [if_pos c62] at H
 have LMc62 := am_ c62
 clear c62
 obtain ⟨y756, hy756, H⟩ := bv_ H
 have Ny756 := am_ hy756
 clear hy756
 obtain ⟨⟨t759, t760, t761, t762, t763, t764⟩, A63, H⟩ := bs_ H
 dsimp only at H
 obtain ⟨⟨t765, t766, t767, t768, t769, t770, t771, t772, t773⟩, A64, H⟩ := bs_ H
 dsimp only at H
 obtain ⟨⟨t774, t775, t776, t777, t778, t779⟩, A65, H⟩ := bs_ H
 dsimp only at H
 obtain ⟨⟨t780, t781, t782, t783, t784, t785, t786, t787, t788⟩, A66, H⟩ := bs_ H
 dsimp only at H
 obtain ⟨⟨t789, t790, t791, t792, t793, t794⟩, A67, H⟩ := bs_ H
 dsimp only at H
 obtain ⟨⟨t795, t796, t797, t798, t799, t800, t801, t802, t803⟩, A68, H⟩ := bs_ H
 dsimp only at H
 obtain ⟨y804, hy804, H⟩ := bv_ H
 have Ny804 := am_ hy804
 clear hy804
 by_cases c69 : y756.length + y804.length < 1759218604441
 rotate_left
 ·rw [if_neg c69] at H
  exact absurd H (by simp)
 rw [if_pos c69] at H
 have LMc69 := am_ c69
 clear c69
 obtain ⟨y807, hy807, H⟩ := bv_ H
 have Ny807 := am_ hy807
 clear hy807
 obtain ⟨⟨t810, t811, t812, t813, t814, t815⟩, A70, H⟩ := bs_ H
 dsimp only at H
 obtain ⟨⟨t816, t817, t818, t819, t820, t821, t822, t823, t824⟩, A71, H⟩ := bs_ H
 dsimp only at H
 obtain ⟨⟨t825, t826, t827, t828, t829, t830⟩, A72, H⟩ := bs_ H
 dsimp only at H
 obtain ⟨⟨t831, t832, t833, t834, t835, t836, t837, t838, t839⟩, A73, H⟩ := bs_ H
 dsimp only at H
 obtain ⟨y840, hy840, H⟩ := bv_ H
 have Ny840 := am_ hy840
 clear hy840
 by_cases c74 : y807.length + y840.length < 1759218604441
 rotate_left
 ·rw [if_neg c74] at H
  exact absurd H (by simp)
 rw [if_pos c74] at H
 have LMc74 := am_ c74
 clear c74
 obtain ⟨y843, hy843, H⟩ := bv_ H
 have Ny843 := am_ hy843
 clear hy843
 obtain ⟨⟨t846, t847, t848, t849, t850, t851⟩, A75, H⟩ := bs_ H
 dsimp only at H
 obtain ⟨⟨t852, t853, t854, t855, t856, t857, t858, t859, t860⟩, A76, H⟩ := bs_ H
 dsimp only at H
 obtain ⟨⟨t861, t862, t863, t864, t865, t866⟩, A77, H⟩ := bs_ H
 dsimp only at H
 obtain ⟨⟨t867, t868, t869, t870, t871, t872, t873, t874, t875⟩, A78, H⟩ := bs_ H
 dsimp only at H
 obtain ⟨y876, hy876, H⟩ := bv_ H
 have Ny876 := am_ hy876
 clear hy876
 by_cases c79 : y843.length + y876.length < 1759218604441
 rotate_left
 ·rw [if_neg c79] at H
  exact absurd H (by simp)
 rw [if_pos c79] at H
 have LMc79 := am_ c79
 clear c79
 obtain ⟨y879, hy879⟩ : ∃ y_ : List (S35), y_ = (y843 ++ y876) := ⟨_, rfl⟩
 replace H : (some (5, y444, y879)) = some (r1, r2, r3) := by first | (rw [hy879]; with_reducible exact H) | (have H2_ := (Option.bind_some _ _).symm.trans H; rw [hy879]; with_reducible exact H2_) | (have H2_ := (Option.bind_some _ _).symm.trans H; with_reducible exact H2_) | with_reducible exact H | (rw [hy879]; exact H) | exact H
 have Ny879 := am_ hy879
 clear hy879
 simp only [Option.some.injEq, Prod.mk.injEq] at H
 obtain ⟨rfl, rfl, rfl⟩ := H
 go_enter Try.func9, Try.ntmps9
 try go_wp2_with (first | ((with_reducible refine gate_dst (N := 0) rfl ?_); refine bx_ (w := w) (N := 0) (cs := #[.int .i64 0, .slice none 0 0, .slice none 0 0]) (t := 26) ?_; intro gb310 w80 BK310 n0_ GW310 GE310; clear HB; have HB := n0_; clear n0_) | ((with_reducible refine gate_dst (N := 1) rfl ?_); refine be_ (N := 1) (cs := #[.int .i64 0, .slice none 0 0, .slice none 0 0]) (t := 26) ?_; intro gb311 hg w81 hbox hb; have BK311 := am_ (hbox); have GW311 := gw_ (w := w) hg; have GE311 := gw_ (w := w) hg; replace HB := bt_ hb; have NB310_311 := ne_ hg BK310; have NB311_310 := nf_ hg BK310; replace BK310 := bw_ BK310 hb; clear hb hbox hg; have hnb82 := NB311_310.out; have hnc82 := NB310_311.out; obtain ⟨hcz83_0, hcz83_1, hcz83_2⟩ := cz3_ BK311.out; obtain ⟨hfz83_0, hfz83_1, hfz83_2⟩ := fz3_ BK311.out))
 have n0_ : Aside0 ((((w81.setCell ⟨gb311, 0, none⟩ (.int .i64 5)).setCell ⟨gb311, 1, none⟩ (.slice none 0 0)).setCell ⟨gb311, 2, none⟩ (.slice none 0 0)).heap[gb310]? = some (.cells #[.int .i64 0, .slice none 0 0, .slice none 0 0] 26 (0, 0))) := ⟨bf1_ NB310_311 BK310⟩
 have n1_ : Aside0 ((((w81.setCell ⟨gb311, 0, none⟩ (.int .i64 5)).setCell ⟨gb311, 1, none⟩ (.slice none 0 0)).setCell ⟨gb311, 2, none⟩ (.slice none 0 0)).heap[gb311]? = some (.cells #[.int .i64 5, .slice none 0 0, .slice none 0 0] 26 (0, 0))) := ⟨by refine bp_ ?_; refine blk_put (cs := #[.int .i64 5, .slice none 0 0, .slice none 0 0]) ?_ 2 _ rfl; refine bp_ ?_; refine blk_put (cs := #[.int .i64 5, .slice none 0 0, .slice none 0 0]) ?_ 1 _ rfl; refine bp_ ?_; refine blk_put (cs := #[.int .i64 0, .slice none 0 0, .slice none 0 0]) ?_ 0 _ rfl; exact bk_ BK311.out⟩
 have n2_ : Aside0 (Below w.heap.size w (((w81.setCell ⟨gb311, 0, none⟩ (.int .i64 5)).setCell ⟨gb311, 1, none⟩ (.slice none 0 0)).setCell ⟨gb311, 2, none⟩ (.slice none 0 0))) := ⟨bh_⟩
 (try clear BK310)
 (try clear BK311)
 (try clear HB)
 generalize (((w81.setCell ⟨gb311, 0, none⟩ (.int .i64 5)).setCell ⟨gb311, 1, none⟩ (.slice none 0 0)).setCell ⟨gb311, 2, none⟩ (.slice none 0 0)) = w84 at n0_ n1_ n2_ ⊢
 have BK310 := n0_
 have BK311 := n1_
 have HB := n2_
 clear n0_ n1_ n2_
 replace BK310 := am_ (blk_drew BK310.out)
 replace BK311 := am_ (blk_drew BK311.out)
 replace HB := am_ (below_drew1 HB.out)
 refine start_ (n := 8) (S := fun w' => w'.cell? ⟨gb311, 0, none⟩ = some (.int .i64 5) ∧ w'.cell? ⟨gb311, 1, none⟩ = some (.slice none 0 0) ∧ w'.cell? ⟨gb311, 2, none⟩ = some (.slice none 0 0)) (ds := [7]) (bf_ 8 0) (by kernel_rfl) rfl rfl (cz3_ BK311.out) (fun hHeld => ?_); refine with_tabW computusref24_Catalogue.tab2 computusref24_Catalogue.bits2 (fun HT_ HW_ => ?_)
 generalize w84.drew = w85 at BK310 BK311 HB hHeld ⊢
 refine pu_ 0 (some 3) (bf_ 8 1) HT_.out ?_
 refine pu_ 2 (some 5) (bf_ 8 5) HT_.out ?_
 refine ta_ 1 (some 4) (bf_ 8 7) HT_.out HW_.out hHeld ?_
 refine one_ (i := 3) (N := some 6) (bf_ 8 15) rfl rfl (one_of HT_.out (by kernel_rfl)) (by decide) (fun K hK => ?_)
 refine gs_ Try.func30 #[.string (⟨#[98, 97, 112, 116, 105, 115, 109, 45, 116, 105, 100, 101]⟩ : ByteArray), .int .i64 5, .int .i64 8, .agg #[.int .i64 3, .int .i64 1, .int .i64 8, .int .i64 0, .int .i64 1, .int .i64 1]] ?_
 with_reducible refine (computusref24_season.calls (⟨#[98, 97, 112, 116, 105, 115, 109, 45, 116, 105, 100, 101]⟩ : ByteArray) 5 8 3 1 8 0 1 1 t312 t313 t314 t315 t316 t317 t318 t319 t320 _ A1.out).mono ?_
 rintro e w86 ⟨rfl, hb⟩
 refine ⟨_, rfl, ?_⟩
 replace BK310 := bw_ BK310 hb
 replace BK311 := bw_ BK311 hb
 replace HB := bt_ hb
 (try clear hb)
 (try clear hb2)
 (try clear hk)
 (try clear hi)
 refine hK.out _ _ (by first | exact (cz3_ BK311.out) | exact hHeld) (fun hHeld => ?_)
 clear hK K
 refine norm_ (a' := ?_) ?_ ?_
 rotate_left
 ·show Act.put _ (some 6) _ = _
  simp only [Act.put, sA_, sZ_, sS_, i64_w, i32_w]
  rfl
 refine one_ (i := 4) (N := some 7) (bf_ 8 31) rfl rfl (one_of HT_.out (by kernel_rfl)) (by decide) (fun K hK => ?_)
 refine value_ (w1 := ?_) (v := ?_) (by rfl) rfl ?_ ?_
 rotate_left 2
 ·go_simp
  constructor
  ·rfl
  ·rfl
 refine hK.out _ _ (by first | exact ⟨(blk_cell (blk_alloc BK311.out _) 0).trans rfl, (blk_cell (blk_alloc BK311.out _) 1).trans rfl, (blk_cell (blk_alloc BK311.out _) 2).trans rfl⟩ | exact hHeld) (fun hHeld => ?_)
 clear hK K
 refine norm_ (a' := ?_) ?_ ?_
 rotate_left
 ·show Act.put _ (some 7) _ = _
  simp only [Act.put, sA_, sZ_, sS_, i64_w, i32_w]
  rfl
 refine one_ (i := 5) (N := some 8) (bf_ 8 63) rfl rfl (one_of HT_.out (by kernel_rfl)) (by decide) (fun K hK => ?_)
 refine Kd.R_append_step k33 (w0 := w) w.heap.size (by rfl) (.tmp 4) (.tmp 7) 23 33 (.agg #[(.string ⟨#[]⟩), (.int .i64 0), (.int .i64 0), (.int .i64 0), (.int .i64 0), (.int .i64 0), (.int .i64 0), (.int .i64 0), (.int .i64 0)]) 80 rfl Try.underlying23 info33 rfl (by decide) (by omega) (.slice none 0 0) ([] : List (S33)) (⟨t312, t313, t314, (⟨t315, t316, t317, t318, t319, t320⟩ : S31)⟩ : S33) [.string t312, .int .i64 t313, .int .i64 t314, .int .i64 t315, .int .i64 t316, .int .i64 t317, .int .i64 t318, .int .i64 t319, .int .i64 t320] (fun _ => True) (fun _ => False) rfl rfl ?aP (fun _ hk => hk.elim) ?aF ?aO ?aB ?aS ?aL ?_
 (case aP => exact k33_mkM _ _ _ (⟨t312, t313, t314, (⟨t315, t316, t317, t318, t319, t320⟩ : S31)⟩ : S33))
 (case aB => exact bh_)
 (case aF => exact (fun _ _ => trivial))
 (case aO => exact ((Kd.R_nil _ _ _ _ (fun _ => True))))
 (case aS => exact bz_)
 (case aL => have := LMc2.out; omega)
 intro v322 w87 ho hb hg hat
 rw [← Ny321.out] at ho
 replace BK310 := am_ (blk_grown (bk_ BK310.out) hg (by simp [Value.ownBlock]))
 replace BK311 := am_ (blk_grown (bk_ BK311.out) hg (by simp [Value.ownBlock]))
 replace HB := am_ (hb)
 have HO323 := am_ (ho)
 clear ho hb hg hat
 obtain ⟨Ao88, co88, eo88⟩ := Kd.R_slice HO323.out
 (first | subst eo88 | (injection eo88 with f1_ f2_ f3_; have f4_ := f1_.symm; have f5_ := f3_.symm; clear f1_ f2_ f3_; subst f4_; subst f5_))
 refine hK.out _ _ (by first | exact (cz3_ BK311.out) | exact hHeld) (fun hHeld => ?_)
 clear hK K
 refine norm_ (a' := ?_) ?_ ?_
 rotate_left
 ·show Act.put _ (some 8) _ = _
  simp only [Act.put, sA_, sZ_, sS_, i64_w, i32_w]
  rfl
 refine pu_ 6 (some 9) (bf_ 8 127) HT_.out ?_
 refine last_ (i := 7) (N := none) (bf_ 8 255) rfl rfl (one_of HT_.out (by kernel_rfl)) (by decide) (fun K hK => ?_)
 have hs89 : w87.cell? ⟨gb311, 1, none⟩ = some (.slice none 0 0) := (blk_cell BK311.out 1).trans rfl
 have hfs89 := blk_frozen BK311.out 1
 have hns89_0 := NB310_311.out
 have hms89_0 := NB311_310.out
 refine skip_ (w1 := ?_) (by rfl) rfl ?_ ?_
 rotate_left
 ·go_simp
  rfl
 refine hK.out _ _ ?_
 clear hK K
 refine done_ (done_of HT_.out (by kernel_rfl)) ?_
 try go_wp2
 have n0_ : Aside0 (Kd.R k33 33 (w87.setCell ⟨gb311, 1, none⟩ (.slice Ao88 y321.length co88)) w.heap.size (fun _ => True) (.slice Ao88 y321.length co88) y321) := ⟨fa_ HO323 BK311⟩
 have n1_ : Aside0 ((w87.setCell ⟨gb311, 1, none⟩ (.slice Ao88 y321.length co88)).heap[gb310]? = some (.cells #[.int .i64 0, .slice none 0 0, .slice none 0 0] 26 (0, 0))) := ⟨bf1_ NB310_311 BK310⟩
 have n2_ : Aside0 ((w87.setCell ⟨gb311, 1, none⟩ (.slice Ao88 y321.length co88)).heap[gb311]? = some (.cells #[.int .i64 5, .slice Ao88 y321.length co88, .slice none 0 0] 26 (0, 0))) := ⟨by refine bp_ ?_; refine blk_put (cs := #[.int .i64 5, .slice none 0 0, .slice none 0 0]) ?_ 1 _ rfl; exact bk_ BK311.out⟩
 have n3_ : Aside0 (Below w.heap.size w (w87.setCell ⟨gb311, 1, none⟩ (.slice Ao88 y321.length co88))) := ⟨bh_⟩
 (try clear HO323)
 (try clear BK310)
 (try clear BK311)
 (try clear HB)
 generalize (w87.setCell ⟨gb311, 1, none⟩ (.slice Ao88 y321.length co88)) = w90 at n0_ n1_ n2_ n3_ ⊢
 have HO323 := n0_
 have BK310 := n1_
 have BK311 := n2_
 have HB := n3_
 clear n0_ n1_ n2_ n3_
 replace HO323 := am_ (Kd.R_drew HO323.out)
 replace BK310 := am_ (blk_drew BK310.out)
 replace BK311 := am_ (blk_drew BK311.out)
 replace HB := am_ (below_drew1 HB.out)
 refine start_ (n := 12) (S := fun w' => w'.cell? ⟨gb311, 0, none⟩ = some (.int .i64 5) ∧ w'.cell? ⟨gb311, 1, none⟩ = some (.slice Ao88 y321.length co88) ∧ w'.cell? ⟨gb311, 2, none⟩ = some (.slice none 0 0)) (ds := [11]) (bf_ 12 0) (by kernel_rfl) rfl rfl (cz3_ BK311.out) (fun hHeld => ?_); refine with_tabW computusref24_Catalogue.tab3 computusref24_Catalogue.bits3 (fun HT_ HW_ => ?_)
 generalize w90.drew = w91 at HO323 BK310 BK311 HB hHeld ⊢
 refine pu_ 0 (some 10) (bf_ 12 1) HT_.out ?_
 refine ta_ 1 (some 11) (bf_ 12 3) HT_.out HW_.out hHeld ?_
 refine one_ (i := 2) (N := some 12) (bf_ 12 7) rfl rfl (one_of HT_.out (by kernel_rfl)) (by decide) (fun K hK => ?_)
 refine gs_ Try.func31 #[.int .i64 (-46)] ?_
 with_reducible refine (computusref24_paschal.calls (-46) t324 t325 t326 t327 t328 t329 _ A3.out).mono ?_
 rintro e w92 ⟨rfl, hb⟩
 refine ⟨_, rfl, ?_⟩
 replace HO323 := rw_ HO323 hb
 replace BK310 := bw_ BK310 hb
 replace BK311 := bw_ BK311 hb
 replace HB := bt_ hb
 (try clear hb)
 (try clear hb2)
 (try clear hk)
 (try clear hi)
 refine hK.out _ _ (by first | exact (cz3_ BK311.out) | exact hHeld) (fun hHeld => ?_)
 clear hK K
 refine norm_ (a' := ?_) ?_ ?_
 rotate_left
 ·show Act.put _ (some 12) _ = _
  simp only [Act.put, sA_, sZ_, sS_, i64_w, i32_w]
  rfl
 refine one_ (i := 3) (N := some 13) (bf_ 12 15) rfl rfl (one_of HT_.out (by kernel_rfl)) (by decide) (fun K hK => ?_)
 refine gs_ Try.func30 #[.string (⟨#[108, 101, 110, 116]⟩ : ByteArray), .int .i64 2, .int .i64 6, .agg #[.int .i64 t324, .int .i64 t325, .int .i64 t326, .int .i64 t327, .int .i64 t328, .int .i64 t329]] ?_
 with_reducible refine (computusref24_season.calls (⟨#[108, 101, 110, 116]⟩ : ByteArray) 2 6 t324 t325 t326 t327 t328 t329 t330 t331 t332 t333 t334 t335 t336 t337 t338 _ A4.out).mono ?_
 rintro e w93 ⟨rfl, hb⟩
 refine ⟨_, rfl, ?_⟩
 replace HO323 := rw_ HO323 hb
 replace BK310 := bw_ BK310 hb
 replace BK311 := bw_ BK311 hb
 replace HB := bt_ hb
 (try clear hb)
 (try clear hb2)
 (try clear hk)
 (try clear hi)
 refine hK.out _ _ (by first | exact (cz3_ BK311.out) | exact hHeld) (fun hHeld => ?_)
 clear hK K
 refine norm_ (a' := ?_) ?_ ?_
 rotate_left
 ·show Act.put _ (some 13) _ = _
  simp only [Act.put, sA_, sZ_, sS_, i64_w, i32_w]
  rfl
 refine one_ (i := 4) (N := some 14) (bf_ 12 31) rfl rfl (one_of HT_.out (by kernel_rfl)) (by decide) (fun K hK => ?_)
 refine gs_ Try.func31 #[.int .i64 (-7)] ?_
 with_reducible refine (computusref24_paschal.calls (-7) t339 t340 t341 t342 t343 t344 _ A5.out).mono ?_
 rintro e w94 ⟨rfl, hb⟩
 refine ⟨_, rfl, ?_⟩
 replace HO323 := rw_ HO323 hb
 replace BK310 := bw_ BK310 hb
 replace BK311 := bw_ BK311 hb
 replace HB := bt_ hb
 (try clear hb)
 (try clear hb2)
 (try clear hk)
 (try clear hi)
 refine hK.out _ _ (by first | exact (cz3_ BK311.out) | exact hHeld) (fun hHeld => ?_)
 clear hK K
 refine norm_ (a' := ?_) ?_ ?_
 rotate_left
 ·show Act.put _ (some 14) _ = _
  simp only [Act.put, sA_, sZ_, sS_, i64_w, i32_w]
  rfl
 refine one_ (i := 5) (N := some 15) (bf_ 12 63) rfl rfl (one_of HT_.out (by kernel_rfl)) (by decide) (fun K hK => ?_)
 refine gs_ Try.func30 #[.string (⟨#[104, 111, 108, 121, 45, 119, 101, 101, 107]⟩ : ByteArray), .int .i64 1, .int .i64 1, .agg #[.int .i64 t339, .int .i64 t340, .int .i64 t341, .int .i64 t342, .int .i64 t343, .int .i64 t344]] ?_
 with_reducible refine (computusref24_season.calls (⟨#[104, 111, 108, 121, 45, 119, 101, 101, 107]⟩ : ByteArray) 1 1 t339 t340 t341 t342 t343 t344 t345 t346 t347 t348 t349 t350 t351 t352 t353 _ A6.out).mono ?_
 rintro e w95 ⟨rfl, hb⟩
 refine ⟨_, rfl, ?_⟩
 replace HO323 := rw_ HO323 hb
 replace BK310 := bw_ BK310 hb
 replace BK311 := bw_ BK311 hb
 replace HB := bt_ hb
 (try clear hb)
 (try clear hb2)
 (try clear hk)
 (try clear hi)
 refine hK.out _ _ (by first | exact (cz3_ BK311.out) | exact hHeld) (fun hHeld => ?_)
 clear hK K
 refine norm_ (a' := ?_) ?_ ?_
 rotate_left
 ·show Act.put _ (some 15) _ = _
  simp only [Act.put, sA_, sZ_, sS_, i64_w, i32_w]
  rfl
 refine one_ (i := 6) (N := some 16) (bf_ 12 127) rfl rfl (one_of HT_.out (by kernel_rfl)) (by decide) (fun K hK => ?_)
 refine gs_ Try.func31 #[.int .i64 0] ?_
 with_reducible refine (computusref24_paschal.calls 0 t354 t355 t356 t357 t358 t359 _ A7.out).mono ?_
 rintro e w96 ⟨rfl, hb⟩
 refine ⟨_, rfl, ?_⟩
 replace HO323 := rw_ HO323 hb
 replace BK310 := bw_ BK310 hb
 replace BK311 := bw_ BK311 hb
 replace HB := bt_ hb
 (try clear hb)
 (try clear hb2)
 (try clear hk)
 (try clear hi)
 refine hK.out _ _ (by first | exact (cz3_ BK311.out) | exact hHeld) (fun hHeld => ?_)
 clear hK K
 refine norm_ (a' := ?_) ?_ ?_
 rotate_left
 ·show Act.put _ (some 16) _ = _
  simp only [Act.put, sA_, sZ_, sS_, i64_w, i32_w]
  rfl
 refine one_ (i := 7) (N := some 17) (bf_ 12 255) rfl rfl (one_of HT_.out (by kernel_rfl)) (by decide) (fun K hK => ?_)
 refine gs_ Try.func30 #[.string (⟨#[101, 97, 115, 116, 101, 114, 45, 111, 99, 116, 97, 118, 101]⟩ : ByteArray), .int .i64 1, .int .i64 1, .agg #[.int .i64 t354, .int .i64 t355, .int .i64 t356, .int .i64 t357, .int .i64 t358, .int .i64 t359]] ?_
 with_reducible refine (computusref24_season.calls (⟨#[101, 97, 115, 116, 101, 114, 45, 111, 99, 116, 97, 118, 101]⟩ : ByteArray) 1 1 t354 t355 t356 t357 t358 t359 t360 t361 t362 t363 t364 t365 t366 t367 t368 _ A8.out).mono ?_
 rintro e w97 ⟨rfl, hb⟩
 refine ⟨_, rfl, ?_⟩
 replace HO323 := rw_ HO323 hb
 replace BK310 := bw_ BK310 hb
 replace BK311 := bw_ BK311 hb
 replace HB := bt_ hb
 (try clear hb)
 (try clear hb2)
 (try clear hk)
 (try clear hi)
 refine hK.out _ _ (by first | exact (cz3_ BK311.out) | exact hHeld) (fun hHeld => ?_)
 clear hK K
 refine norm_ (a' := ?_) ?_ ?_
 rotate_left
 ·show Act.put _ (some 17) _ = _
  simp only [Act.put, sA_, sZ_, sS_, i64_w, i32_w]
  rfl
 refine one_ (i := 8) (N := some 18) (bf_ 12 511) rfl rfl (one_of HT_.out (by kernel_rfl)) (by decide) (fun K hK => ?_)
 refine Kd.R_lit_step k33 _ 33 ?hg (N := 18) ?hd (xs := ([(⟨t330, t331, t332, (⟨t333, t334, t335, t336, t337, t338⟩ : S31)⟩ : S33), (⟨t345, t346, t347, (⟨t348, t349, t350, t351, t352, t353⟩ : S31)⟩ : S33), (⟨t360, t361, t362, (⟨t363, t364, t365, t366, t367, t368⟩ : S31)⟩ : S33)] : List (S33))) (inner := [.string t330, .int .i64 t331, .int .i64 t332, .int .i64 t333, .int .i64 t334, .int .i64 t335, .int .i64 t336, .int .i64 t337, .int .i64 t338, .string t345, .int .i64 t346, .int .i64 t347, .int .i64 t348, .int .i64 t349, .int .i64 t350, .int .i64 t351, .int .i64 t352, .int .i64 t353, .string t360, .int .i64 t361, .int .i64 t362, .int .i64 t363, .int .i64 t364, .int .i64 t365, .int .i64 t366, .int .i64 t367, .int .i64 t368]) (ok := fun _ => True) (okp := fun _ => True) ?hr ?hp (fun _ hk => hk) trivial (Below.refl _ _) (Nat.le_refl _) (by simp) ?_; (case hd => rfl); (case hg => rfl); (case hr => first | (go_simp; done) | (go_simp; rfl)); (case hp => exact (Reps.c9 (show Kd.M k33 _ _ _ (⟨t330, t331, t332, (⟨t333, t334, t335, t336, t337, t338⟩ : S31)⟩ : S33) [.string t330, .int .i64 t331, .int .i64 t332, .int .i64 t333, .int .i64 t334, .int .i64 t335, .int .i64 t336, .int .i64 t337, .int .i64 t338] from (k33_mkM _ _ _ (⟨t330, t331, t332, (⟨t333, t334, t335, t336, t337, t338⟩ : S31)⟩ : S33) )) (Reps.c9 (show Kd.M k33 _ _ _ (⟨t345, t346, t347, (⟨t348, t349, t350, t351, t352, t353⟩ : S31)⟩ : S33) [.string t345, .int .i64 t346, .int .i64 t347, .int .i64 t348, .int .i64 t349, .int .i64 t350, .int .i64 t351, .int .i64 t352, .int .i64 t353] from (k33_mkM _ _ _ (⟨t345, t346, t347, (⟨t348, t349, t350, t351, t352, t353⟩ : S31)⟩ : S33) )) (Reps.c9 (show Kd.M k33 _ _ _ (⟨t360, t361, t362, (⟨t363, t364, t365, t366, t367, t368⟩ : S31)⟩ : S33) [.string t360, .int .i64 t361, .int .i64 t362, .int .i64 t363, .int .i64 t364, .int .i64 t365, .int .i64 t366, .int .i64 t367, .int .i64 t368] from (k33_mkM _ _ _ (⟨t360, t361, t362, (⟨t363, t364, t365, t366, t367, t368⟩ : S31)⟩ : S33) )) (Reps.none _ _)))))
 intro v370 w98 ho99 hb hg_ hnew_
 clear hg_ hnew_
 (first | rw [← Ny369.out] at ho99 | (simp only [Int.reduceToNat] at ho99; rw [← Ny369.out] at ho99))
 have HO371 := am_ (Kd.R_lower (Kd.R_new' ho99 (Kd.R_lt (rk_ HO323.out))) bz_)
 replace HO323 := am_ (Kd.R_elder' (rk_ HO323.out) (Kd.R_base ho99) hb)
 replace BK310 := bw_ BK310 hb
 replace BK311 := bw_ BK311 hb
 replace HB := bt_ hb
 clear hb ho99
 obtain ⟨Ao101, co101, eo101⟩ := Kd.R_slice HO371.out
 (first | subst eo101 | (injection eo101 with f1_ f2_ f3_; have f4_ := f1_.symm; have f5_ := f3_.symm; clear f1_ f2_ f3_; subst f4_; subst f5_))
 refine hK.out _ _ (by first | exact (cz3_ BK311.out) | exact hHeld) (fun hHeld => ?_)
 clear hK K
 refine norm_ (a' := ?_) ?_ ?_
 rotate_left
 ·show Act.put _ (some 18) _ = _
  simp only [Act.put, sA_, sZ_, sS_, i64_w, i32_w]
  rfl
 refine one_ (i := 9) (N := some 19) (bf_ 12 1023) rfl rfl (one_of HT_.out (by kernel_rfl)) (by decide) (fun K hK => ?_)
 refine Kd.R_append_rows_step k33 (w0 := w) w.heap.size (by rfl) (.tmp 11) (.tmp 18) 23 33 (.agg #[(.string ⟨#[]⟩), (.int .i64 0), (.int .i64 0), (.int .i64 0), (.int .i64 0), (.int .i64 0), (.int .i64 0), (.int .i64 0), (.int .i64 0)]) 80 rfl Try.underlying23 info33 rfl (by decide) (by omega) (.slice Ao88 y321.length co88) y321 y369 _ _ _ (fun _ => True) (fun _ => False) rfl rfl ?aO ?aR (fun _ _ h => h) (fun _ h => h.elim) ?aF ?aB ?aS ?aL ?_
 (case aR => exact ck_ (Kd.R_reads' HO371.out).2.2)
 (case aB => exact bh_)
 (case aF => exact (fun _ _ => trivial))
 (case aO => exact (by (with_reducible repeat (first | apply Kd.R_alloc | apply Kd.R_drewN | apply Kd.R_drew)); exact Kd.R_mono HO323.out (fun _ hk => trivial)))
 (case aS => exact bz_)
 (case aL => have := LMc9.out; omega)
 intro v373 w100 ho hb hg hat
 rw [← Ny372.out] at ho
 have n0_ := am_ (blk_grown (bk_ BK310.out) hg (Kd.R_ne HO323.out BK310.out (by decide)))
 have n1_ := am_ (blk_grown (bk_ BK311.out) hg (Kd.R_ne HO323.out BK311.out (by decide)))
 have n2_ := am_ (hb)
 have n3_ := am_ (ho)
 clear BK310
 clear BK311
 clear HB
 clear HO323
 clear HO371
 have BK310 := n0_
 have BK311 := n1_
 have HB := n2_
 have HO374 := n3_
 clear n0_ n1_ n2_ n3_
 clear ho hb hg hat
 obtain ⟨Ao102, co102, eo102⟩ := Kd.R_slice HO374.out
 (first | subst eo102 | (injection eo102 with f1_ f2_ f3_; have f4_ := f1_.symm; have f5_ := f3_.symm; clear f1_ f2_ f3_; subst f4_; subst f5_))
 refine hK.out _ _ (by first | exact (cz3_ BK311.out) | exact hHeld) (fun hHeld => ?_)
 clear hK K
 refine norm_ (a' := ?_) ?_ ?_
 rotate_left
 ·show Act.put _ (some 19) _ = _
  simp only [Act.put, sA_, sZ_, sS_, i64_w, i32_w]
  rfl
 refine pu_ 10 (some 20) (bf_ 12 2047) HT_.out ?_
 refine last_ (i := 11) (N := none) (bf_ 12 4095) rfl rfl (one_of HT_.out (by kernel_rfl)) (by decide) (fun K hK => ?_)
 have hs103 : w100.cell? ⟨gb311, 1, none⟩ = some (.slice Ao88 y321.length co88) := (blk_cell BK311.out 1).trans rfl
 have hfs103 := blk_frozen BK311.out 1
 have hns103_0 := NB310_311.out
 have hms103_0 := NB311_310.out
 refine skip_ (w1 := ?_) (by rfl) rfl ?_ ?_
 rotate_left
 ·go_simp
  rfl
 refine hK.out _ _ ?_
 clear hK K
 refine done_ (done_of HT_.out (by kernel_rfl)) ?_
 try go_wp2
 have n0_ : Aside0 (Kd.R k33 33 (w100.setCell ⟨gb311, 1, none⟩ (.slice Ao102 y372.length co102)) w.heap.size (fun _ => True) (.slice Ao102 y372.length co102) y372) := ⟨fa_ HO374 BK311⟩
 have n1_ : Aside0 ((w100.setCell ⟨gb311, 1, none⟩ (.slice Ao102 y372.length co102)).heap[gb310]? = some (.cells #[.int .i64 0, .slice none 0 0, .slice none 0 0] 26 (0, 0))) := ⟨bf1_ NB310_311 BK310⟩
 have n2_ : Aside0 ((w100.setCell ⟨gb311, 1, none⟩ (.slice Ao102 y372.length co102)).heap[gb311]? = some (.cells #[.int .i64 5, .slice Ao102 y372.length co102, .slice none 0 0] 26 (0, 0))) := ⟨by refine bp_ ?_; refine blk_put (cs := #[.int .i64 5, .slice Ao88 y321.length co88, .slice none 0 0]) ?_ 1 _ rfl; exact bk_ BK311.out⟩
 have n3_ : Aside0 (Below w.heap.size w (w100.setCell ⟨gb311, 1, none⟩ (.slice Ao102 y372.length co102))) := ⟨bh_⟩
 (try clear HO374)
 (try clear BK310)
 (try clear BK311)
 (try clear HB)
 generalize (w100.setCell ⟨gb311, 1, none⟩ (.slice Ao102 y372.length co102)) = w104 at n0_ n1_ n2_ n3_ ⊢
 have HO374 := n0_
 have BK310 := n1_
 have BK311 := n2_
 have HB := n3_
 clear n0_ n1_ n2_ n3_
 replace HO374 := am_ (Kd.R_drew HO374.out)
 replace BK310 := am_ (blk_drew BK310.out)
 replace BK311 := am_ (blk_drew BK311.out)
 replace HB := am_ (below_drew1 HB.out)
 refine start_ (n := 10) (S := fun w' => w'.cell? ⟨gb311, 0, none⟩ = some (.int .i64 5) ∧ w'.cell? ⟨gb311, 1, none⟩ = some (.slice Ao102 y372.length co102) ∧ w'.cell? ⟨gb311, 2, none⟩ = some (.slice none 0 0)) (ds := [9]) (bf_ 10 0) (by kernel_rfl) rfl rfl (cz3_ BK311.out) (fun hHeld => ?_); refine with_tabW computusref24_Catalogue.tab4 computusref24_Catalogue.bits4 (fun HT_ HW_ => ?_)
 generalize w104.drew = w105 at HO374 BK310 BK311 HB hHeld ⊢
 refine pu_ 0 (some 21) (bf_ 10 1) HT_.out ?_
 refine ta_ 1 (some 22) (bf_ 10 3) HT_.out HW_.out hHeld ?_
 refine one_ (i := 2) (N := some 23) (bf_ 10 7) rfl rfl (one_of HT_.out (by kernel_rfl)) (by decide) (fun K hK => ?_)
 refine gs_ Try.func31 #[.int .i64 8] ?_
 with_reducible refine (computusref24_paschal.calls 8 t375 t376 t377 t378 t379 t380 _ A10.out).mono ?_
 rintro e w106 ⟨rfl, hb⟩
 refine ⟨_, rfl, ?_⟩
 replace HO374 := rw_ HO374 hb
 replace BK310 := bw_ BK310 hb
 replace BK311 := bw_ BK311 hb
 replace HB := bt_ hb
 (try clear hb)
 (try clear hb2)
 (try clear hk)
 (try clear hi)
 refine hK.out _ _ (by first | exact (cz3_ BK311.out) | exact hHeld) (fun hHeld => ?_)
 clear hK K
 refine norm_ (a' := ?_) ?_ ?_
 rotate_left
 ·show Act.put _ (some 23) _ = _
  simp only [Act.put, sA_, sZ_, sS_, i64_w, i32_w]
  rfl
 refine one_ (i := 3) (N := some 24) (bf_ 10 15) rfl rfl (one_of HT_.out (by kernel_rfl)) (by decide) (fun K hK => ?_)
 refine gs_ Try.func30 #[.string (⟨#[101, 97, 115, 116, 101, 114, 116, 105, 100, 101]⟩ : ByteArray), .int .i64 2, .int .i64 8, .agg #[.int .i64 t375, .int .i64 t376, .int .i64 t377, .int .i64 t378, .int .i64 t379, .int .i64 t380]] ?_
 with_reducible refine (computusref24_season.calls (⟨#[101, 97, 115, 116, 101, 114, 116, 105, 100, 101]⟩ : ByteArray) 2 8 t375 t376 t377 t378 t379 t380 t381 t382 t383 t384 t385 t386 t387 t388 t389 _ A11.out).mono ?_
 rintro e w107 ⟨rfl, hb⟩
 refine ⟨_, rfl, ?_⟩
 replace HO374 := rw_ HO374 hb
 replace BK310 := bw_ BK310 hb
 replace BK311 := bw_ BK311 hb
 replace HB := bt_ hb
 (try clear hb)
 (try clear hb2)
 (try clear hk)
 (try clear hi)
 refine hK.out _ _ (by first | exact (cz3_ BK311.out) | exact hHeld) (fun hHeld => ?_)
 clear hK K
 refine norm_ (a' := ?_) ?_ ?_
 rotate_left
 ·show Act.put _ (some 24) _ = _
  simp only [Act.put, sA_, sZ_, sS_, i64_w, i32_w]
  rfl
 refine one_ (i := 4) (N := some 25) (bf_ 10 31) rfl rfl (one_of HT_.out (by kernel_rfl)) (by decide) (fun K hK => ?_)
 refine gs_ Try.func31 #[.int .i64 50] ?_
 with_reducible refine (computusref24_paschal.calls 50 t390 t391 t392 t393 t394 t395 _ A12.out).mono ?_
 rintro e w108 ⟨rfl, hb⟩
 refine ⟨_, rfl, ?_⟩
 replace HO374 := rw_ HO374 hb
 replace BK310 := bw_ BK310 hb
 replace BK311 := bw_ BK311 hb
 replace HB := bt_ hb
 (try clear hb)
 (try clear hb2)
 (try clear hk)
 (try clear hi)
 refine hK.out _ _ (by first | exact (cz3_ BK311.out) | exact hHeld) (fun hHeld => ?_)
 clear hK K
 refine norm_ (a' := ?_) ?_ ?_
 rotate_left
 ·show Act.put _ (some 25) _ = _
  simp only [Act.put, sA_, sZ_, sS_, i64_w, i32_w]
  rfl
 refine one_ (i := 5) (N := some 26) (bf_ 10 63) rfl rfl (one_of HT_.out (by kernel_rfl)) (by decide) (fun K hK => ?_)
 refine gs_ Try.func30 #[.string (⟨#[111, 114, 100, 105, 110, 97, 114, 121, 45, 116, 105, 109, 101]⟩ : ByteArray), .int .i64 5, .int .i64 8, .agg #[.int .i64 t390, .int .i64 t391, .int .i64 t392, .int .i64 t393, .int .i64 t394, .int .i64 t395]] ?_
 with_reducible refine (computusref24_season.calls (⟨#[111, 114, 100, 105, 110, 97, 114, 121, 45, 116, 105, 109, 101]⟩ : ByteArray) 5 8 t390 t391 t392 t393 t394 t395 t396 t397 t398 t399 t400 t401 t402 t403 t404 _ A13.out).mono ?_
 rintro e w109 ⟨rfl, hb⟩
 refine ⟨_, rfl, ?_⟩
 replace HO374 := rw_ HO374 hb
 replace BK310 := bw_ BK310 hb
 replace BK311 := bw_ BK311 hb
 replace HB := bt_ hb
 (try clear hb)
 (try clear hb2)
 (try clear hk)
 (try clear hi)
 refine hK.out _ _ (by first | exact (cz3_ BK311.out) | exact hHeld) (fun hHeld => ?_)
 clear hK K
 refine norm_ (a' := ?_) ?_ ?_
 rotate_left
 ·show Act.put _ (some 26) _ = _
  simp only [Act.put, sA_, sZ_, sS_, i64_w, i32_w]
  rfl
 refine one_ (i := 6) (N := some 27) (bf_ 10 127) rfl rfl (one_of HT_.out (by kernel_rfl)) (by decide) (fun K hK => ?_)
 refine Kd.R_lit_step k33 _ 33 ?hg (N := 27) ?hd (xs := ([(⟨t381, t382, t383, (⟨t384, t385, t386, t387, t388, t389⟩ : S31)⟩ : S33), (⟨t396, t397, t398, (⟨t399, t400, t401, t402, t403, t404⟩ : S31)⟩ : S33)] : List (S33))) (inner := [.string t381, .int .i64 t382, .int .i64 t383, .int .i64 t384, .int .i64 t385, .int .i64 t386, .int .i64 t387, .int .i64 t388, .int .i64 t389, .string t396, .int .i64 t397, .int .i64 t398, .int .i64 t399, .int .i64 t400, .int .i64 t401, .int .i64 t402, .int .i64 t403, .int .i64 t404]) (ok := fun _ => True) (okp := fun _ => True) ?hr ?hp (fun _ hk => hk) trivial (Below.refl _ _) (Nat.le_refl _) (by simp) ?_; (case hd => rfl); (case hg => rfl); (case hr => first | (go_simp; done) | (go_simp; rfl)); (case hp => exact (Reps.c9 (show Kd.M k33 _ _ _ (⟨t381, t382, t383, (⟨t384, t385, t386, t387, t388, t389⟩ : S31)⟩ : S33) [.string t381, .int .i64 t382, .int .i64 t383, .int .i64 t384, .int .i64 t385, .int .i64 t386, .int .i64 t387, .int .i64 t388, .int .i64 t389] from (k33_mkM _ _ _ (⟨t381, t382, t383, (⟨t384, t385, t386, t387, t388, t389⟩ : S31)⟩ : S33) )) (Reps.c9 (show Kd.M k33 _ _ _ (⟨t396, t397, t398, (⟨t399, t400, t401, t402, t403, t404⟩ : S31)⟩ : S33) [.string t396, .int .i64 t397, .int .i64 t398, .int .i64 t399, .int .i64 t400, .int .i64 t401, .int .i64 t402, .int .i64 t403, .int .i64 t404] from (k33_mkM _ _ _ (⟨t396, t397, t398, (⟨t399, t400, t401, t402, t403, t404⟩ : S31)⟩ : S33) )) (Reps.none _ _))))
 intro v406 w110 ho111 hb hg_ hnew_
 clear hg_ hnew_
 (first | rw [← Ny405.out] at ho111 | (simp only [Int.reduceToNat] at ho111; rw [← Ny405.out] at ho111))
 have HO407 := am_ (Kd.R_lower (Kd.R_new' ho111 (Kd.R_lt (rk_ HO374.out))) bz_)
 replace HO374 := am_ (Kd.R_elder' (rk_ HO374.out) (Kd.R_base ho111) hb)
 replace BK310 := bw_ BK310 hb
 replace BK311 := bw_ BK311 hb
 replace HB := bt_ hb
 clear hb ho111
 obtain ⟨Ao113, co113, eo113⟩ := Kd.R_slice HO407.out
 (first | subst eo113 | (injection eo113 with f1_ f2_ f3_; have f4_ := f1_.symm; have f5_ := f3_.symm; clear f1_ f2_ f3_; subst f4_; subst f5_))
 refine hK.out _ _ (by first | exact (cz3_ BK311.out) | exact hHeld) (fun hHeld => ?_)
 clear hK K
 refine norm_ (a' := ?_) ?_ ?_
 rotate_left
 ·show Act.put _ (some 27) _ = _
  simp only [Act.put, sA_, sZ_, sS_, i64_w, i32_w]
  rfl
 refine one_ (i := 7) (N := some 28) (bf_ 10 255) rfl rfl (one_of HT_.out (by kernel_rfl)) (by decide) (fun K hK => ?_)
 refine Kd.R_append_rows_step k33 (w0 := w) w.heap.size (by rfl) (.tmp 22) (.tmp 27) 23 33 (.agg #[(.string ⟨#[]⟩), (.int .i64 0), (.int .i64 0), (.int .i64 0), (.int .i64 0), (.int .i64 0), (.int .i64 0), (.int .i64 0), (.int .i64 0)]) 80 rfl Try.underlying23 info33 rfl (by decide) (by omega) (.slice Ao102 y372.length co102) y372 y405 _ _ _ (fun _ => True) (fun _ => False) rfl rfl ?aO ?aR (fun _ _ h => h) (fun _ h => h.elim) ?aF ?aB ?aS ?aL ?_
 (case aR => exact ck_ (Kd.R_reads' HO407.out).2.2)
 (case aB => exact bh_)
 (case aF => exact (fun _ _ => trivial))
 (case aO => exact (by (with_reducible repeat (first | apply Kd.R_alloc | apply Kd.R_drewN | apply Kd.R_drew)); exact Kd.R_mono HO374.out (fun _ hk => trivial)))
 (case aS => exact bz_)
 (case aL => have := LMc14.out; omega)
 intro v409 w112 ho hb hg hat
 rw [← Ny408.out] at ho
 have n0_ := am_ (blk_grown (bk_ BK310.out) hg (Kd.R_ne HO374.out BK310.out (by decide)))
 have n1_ := am_ (blk_grown (bk_ BK311.out) hg (Kd.R_ne HO374.out BK311.out (by decide)))
 have n2_ := am_ (hb)
 have n3_ := am_ (ho)
 clear BK310
 clear BK311
 clear HB
 clear HO374
 clear HO407
 have BK310 := n0_
 have BK311 := n1_
 have HB := n2_
 have HO410 := n3_
 clear n0_ n1_ n2_ n3_
 clear ho hb hg hat
 obtain ⟨Ao114, co114, eo114⟩ := Kd.R_slice HO410.out
 (first | subst eo114 | (injection eo114 with f1_ f2_ f3_; have f4_ := f1_.symm; have f5_ := f3_.symm; clear f1_ f2_ f3_; subst f4_; subst f5_))
 refine hK.out _ _ (by first | exact (cz3_ BK311.out) | exact hHeld) (fun hHeld => ?_)
 clear hK K
 refine norm_ (a' := ?_) ?_ ?_
 rotate_left
 ·show Act.put _ (some 28) _ = _
  simp only [Act.put, sA_, sZ_, sS_, i64_w, i32_w]
  rfl
 refine pu_ 8 (some 29) (bf_ 10 511) HT_.out ?_
 refine last_ (i := 9) (N := none) (bf_ 10 1023) rfl rfl (one_of HT_.out (by kernel_rfl)) (by decide) (fun K hK => ?_)
 have hs115 : w112.cell? ⟨gb311, 1, none⟩ = some (.slice Ao102 y372.length co102) := (blk_cell BK311.out 1).trans rfl
 have hfs115 := blk_frozen BK311.out 1
 have hns115_0 := NB310_311.out
 have hms115_0 := NB311_310.out
 refine skip_ (w1 := ?_) (by rfl) rfl ?_ ?_
 rotate_left
 ·go_simp
  rfl
 refine hK.out _ _ ?_
 clear hK K
 refine done_ (done_of HT_.out (by kernel_rfl)) ?_
 try go_wp2
 have n0_ : Aside0 (Kd.R k33 33 (w112.setCell ⟨gb311, 1, none⟩ (.slice Ao114 y408.length co114)) w.heap.size (fun _ => True) (.slice Ao114 y408.length co114) y408) := ⟨fa_ HO410 BK311⟩
 have n1_ : Aside0 ((w112.setCell ⟨gb311, 1, none⟩ (.slice Ao114 y408.length co114)).heap[gb310]? = some (.cells #[.int .i64 0, .slice none 0 0, .slice none 0 0] 26 (0, 0))) := ⟨bf1_ NB310_311 BK310⟩
 have n2_ : Aside0 ((w112.setCell ⟨gb311, 1, none⟩ (.slice Ao114 y408.length co114)).heap[gb311]? = some (.cells #[.int .i64 5, .slice Ao114 y408.length co114, .slice none 0 0] 26 (0, 0))) := ⟨by refine bp_ ?_; refine blk_put (cs := #[.int .i64 5, .slice Ao102 y372.length co102, .slice none 0 0]) ?_ 1 _ rfl; exact bk_ BK311.out⟩
 have n3_ : Aside0 (Below w.heap.size w (w112.setCell ⟨gb311, 1, none⟩ (.slice Ao114 y408.length co114))) := ⟨bh_⟩
 (try clear HO410)
 (try clear BK310)
 (try clear BK311)
 (try clear HB)
 generalize (w112.setCell ⟨gb311, 1, none⟩ (.slice Ao114 y408.length co114)) = w116 at n0_ n1_ n2_ n3_ ⊢
 have HO410 := n0_
 have BK310 := n1_
 have BK311 := n2_
 have HB := n3_
 clear n0_ n1_ n2_ n3_
 replace HO410 := am_ (Kd.R_drew HO410.out)
 replace BK310 := am_ (blk_drew BK310.out)
 replace BK311 := am_ (blk_drew BK311.out)
 replace HB := am_ (below_drew1 HB.out)
 refine start_ (n := 10) (S := fun w' => w'.cell? ⟨gb311, 0, none⟩ = some (.int .i64 5) ∧ w'.cell? ⟨gb311, 1, none⟩ = some (.slice Ao114 y408.length co114) ∧ w'.cell? ⟨gb311, 2, none⟩ = some (.slice none 0 0)) (ds := [9]) (bf_ 10 0) (by kernel_rfl) rfl rfl (cz3_ BK311.out) (fun hHeld => ?_); refine with_tabW computusref24_Catalogue.tab5 computusref24_Catalogue.bits5 (fun HT_ HW_ => ?_)
 generalize w116.drew = w117 at HO410 BK310 BK311 HB hHeld ⊢
 refine pu_ 0 (some 30) (bf_ 10 1) HT_.out ?_
 refine ta_ 1 (some 31) (bf_ 10 3) HT_.out HW_.out hHeld ?_
 refine one_ (i := 2) (N := some 32) (bf_ 10 7) rfl rfl (one_of HT_.out (by kernel_rfl)) (by decide) (fun K hK => ?_)
 refine gs_ Try.func32 #[.int .i64 11, .int .i64 27] ?_
 with_reducible refine (computusref24_sunday.calls 11 27 t411 t412 t413 t414 t415 t416 _ A15.out).mono ?_
 rintro e w118 ⟨rfl, hb⟩
 refine ⟨_, rfl, ?_⟩
 replace HO410 := rw_ HO410 hb
 replace BK310 := bw_ BK310 hb
 replace BK311 := bw_ BK311 hb
 replace HB := bt_ hb
 (try clear hb)
 (try clear hb2)
 (try clear hk)
 (try clear hi)
 refine hK.out _ _ (by first | exact (cz3_ BK311.out) | exact hHeld) (fun hHeld => ?_)
 clear hK K
 refine norm_ (a' := ?_) ?_ ?_
 rotate_left
 ·show Act.put _ (some 32) _ = _
  simp only [Act.put, sA_, sZ_, sS_, i64_w, i32_w]
  rfl
 refine one_ (i := 3) (N := some 33) (bf_ 10 15) rfl rfl (one_of HT_.out (by kernel_rfl)) (by decide) (fun K hK => ?_)
 refine gs_ Try.func30 #[.string (⟨#[97, 100, 118, 101, 110, 116]⟩ : ByteArray), .int .i64 2, .int .i64 7, .agg #[.int .i64 t411, .int .i64 t412, .int .i64 t413, .int .i64 t414, .int .i64 t415, .int .i64 t416]] ?_
 with_reducible refine (computusref24_season.calls (⟨#[97, 100, 118, 101, 110, 116]⟩ : ByteArray) 2 7 t411 t412 t413 t414 t415 t416 t417 t418 t419 t420 t421 t422 t423 t424 t425 _ A16.out).mono ?_
 rintro e w119 ⟨rfl, hb⟩
 refine ⟨_, rfl, ?_⟩
 replace HO410 := rw_ HO410 hb
 replace BK310 := bw_ BK310 hb
 replace BK311 := bw_ BK311 hb
 replace HB := bt_ hb
 (try clear hb)
 (try clear hb2)
 (try clear hk)
 (try clear hi)
 refine hK.out _ _ (by first | exact (cz3_ BK311.out) | exact hHeld) (fun hHeld => ?_)
 clear hK K
 refine norm_ (a' := ?_) ?_ ?_
 rotate_left
 ·show Act.put _ (some 33) _ = _
  simp only [Act.put, sA_, sZ_, sS_, i64_w, i32_w]
  rfl
 refine one_ (i := 4) (N := some 34) (bf_ 10 31) rfl rfl (one_of HT_.out (by kernel_rfl)) (by decide) (fun K hK => ?_)
 refine gs_ Try.func33 #[.int .i64 12, .int .i64 25] ?_
 with_reducible refine (computusref24_fixed.calls 12 25 t426 t427 t428 t429 t430 t431 _ A17.out).mono ?_
 rintro e w120 ⟨rfl, hb⟩
 refine ⟨_, rfl, ?_⟩
 replace HO410 := rw_ HO410 hb
 replace BK310 := bw_ BK310 hb
 replace BK311 := bw_ BK311 hb
 replace HB := bt_ hb
 (try clear hb)
 (try clear hb2)
 (try clear hk)
 (try clear hi)
 refine hK.out _ _ (by first | exact (cz3_ BK311.out) | exact hHeld) (fun hHeld => ?_)
 clear hK K
 refine norm_ (a' := ?_) ?_ ?_
 rotate_left
 ·show Act.put _ (some 34) _ = _
  simp only [Act.put, sA_, sZ_, sS_, i64_w, i32_w]
  rfl
 refine one_ (i := 5) (N := some 35) (bf_ 10 63) rfl rfl (one_of HT_.out (by kernel_rfl)) (by decide) (fun K hK => ?_)
 refine gs_ Try.func30 #[.string (⟨#[99, 104, 114, 105, 115, 116, 109, 97, 115]⟩ : ByteArray), .int .i64 3, .int .i64 6, .agg #[.int .i64 t426, .int .i64 t427, .int .i64 t428, .int .i64 t429, .int .i64 t430, .int .i64 t431]] ?_
 with_reducible refine (computusref24_season.calls (⟨#[99, 104, 114, 105, 115, 116, 109, 97, 115]⟩ : ByteArray) 3 6 t426 t427 t428 t429 t430 t431 t432 t433 t434 t435 t436 t437 t438 t439 t440 _ A18.out).mono ?_
 rintro e w121 ⟨rfl, hb⟩
 refine ⟨_, rfl, ?_⟩
 replace HO410 := rw_ HO410 hb
 replace BK310 := bw_ BK310 hb
 replace BK311 := bw_ BK311 hb
 replace HB := bt_ hb
 (try clear hb)
 (try clear hb2)
 (try clear hk)
 (try clear hi)
 refine hK.out _ _ (by first | exact (cz3_ BK311.out) | exact hHeld) (fun hHeld => ?_)
 clear hK K
 refine norm_ (a' := ?_) ?_ ?_
 rotate_left
 ·show Act.put _ (some 35) _ = _
  simp only [Act.put, sA_, sZ_, sS_, i64_w, i32_w]
  rfl
 refine one_ (i := 6) (N := some 36) (bf_ 10 127) rfl rfl (one_of HT_.out (by kernel_rfl)) (by decide) (fun K hK => ?_)
 refine Kd.R_lit_step k33 _ 33 ?hg (N := 36) ?hd (xs := ([(⟨t417, t418, t419, (⟨t420, t421, t422, t423, t424, t425⟩ : S31)⟩ : S33), (⟨t432, t433, t434, (⟨t435, t436, t437, t438, t439, t440⟩ : S31)⟩ : S33)] : List (S33))) (inner := [.string t417, .int .i64 t418, .int .i64 t419, .int .i64 t420, .int .i64 t421, .int .i64 t422, .int .i64 t423, .int .i64 t424, .int .i64 t425, .string t432, .int .i64 t433, .int .i64 t434, .int .i64 t435, .int .i64 t436, .int .i64 t437, .int .i64 t438, .int .i64 t439, .int .i64 t440]) (ok := fun _ => True) (okp := fun _ => True) ?hr ?hp (fun _ hk => hk) trivial (Below.refl _ _) (Nat.le_refl _) (by simp) ?_; (case hd => rfl); (case hg => rfl); (case hr => first | (go_simp; done) | (go_simp; rfl)); (case hp => exact (Reps.c9 (show Kd.M k33 _ _ _ (⟨t417, t418, t419, (⟨t420, t421, t422, t423, t424, t425⟩ : S31)⟩ : S33) [.string t417, .int .i64 t418, .int .i64 t419, .int .i64 t420, .int .i64 t421, .int .i64 t422, .int .i64 t423, .int .i64 t424, .int .i64 t425] from (k33_mkM _ _ _ (⟨t417, t418, t419, (⟨t420, t421, t422, t423, t424, t425⟩ : S31)⟩ : S33) )) (Reps.c9 (show Kd.M k33 _ _ _ (⟨t432, t433, t434, (⟨t435, t436, t437, t438, t439, t440⟩ : S31)⟩ : S33) [.string t432, .int .i64 t433, .int .i64 t434, .int .i64 t435, .int .i64 t436, .int .i64 t437, .int .i64 t438, .int .i64 t439, .int .i64 t440] from (k33_mkM _ _ _ (⟨t432, t433, t434, (⟨t435, t436, t437, t438, t439, t440⟩ : S31)⟩ : S33) )) (Reps.none _ _))))
 intro v442 w122 ho123 hb hg_ hnew_
 clear hg_ hnew_
 (first | rw [← Ny441.out] at ho123 | (simp only [Int.reduceToNat] at ho123; rw [← Ny441.out] at ho123))
 have HO443 := am_ (Kd.R_lower (Kd.R_new' ho123 (Kd.R_lt (rk_ HO410.out))) bz_)
 replace HO410 := am_ (Kd.R_elder' (rk_ HO410.out) (Kd.R_base ho123) hb)
 replace BK310 := bw_ BK310 hb
 replace BK311 := bw_ BK311 hb
 replace HB := bt_ hb
 clear hb ho123
 obtain ⟨Ao125, co125, eo125⟩ := Kd.R_slice HO443.out
 (first | subst eo125 | (injection eo125 with f1_ f2_ f3_; have f4_ := f1_.symm; have f5_ := f3_.symm; clear f1_ f2_ f3_; subst f4_; subst f5_))
 refine hK.out _ _ (by first | exact (cz3_ BK311.out) | exact hHeld) (fun hHeld => ?_)
 clear hK K
 refine norm_ (a' := ?_) ?_ ?_
 rotate_left
 ·show Act.put _ (some 36) _ = _
  simp only [Act.put, sA_, sZ_, sS_, i64_w, i32_w]
  rfl
 refine one_ (i := 7) (N := some 37) (bf_ 10 255) rfl rfl (one_of HT_.out (by kernel_rfl)) (by decide) (fun K hK => ?_)
 refine Kd.R_append_rows_step k33 (w0 := w) w.heap.size (by rfl) (.tmp 31) (.tmp 36) 23 33 (.agg #[(.string ⟨#[]⟩), (.int .i64 0), (.int .i64 0), (.int .i64 0), (.int .i64 0), (.int .i64 0), (.int .i64 0), (.int .i64 0), (.int .i64 0)]) 80 rfl Try.underlying23 info33 rfl (by decide) (by omega) (.slice Ao114 y408.length co114) y408 y441 _ _ _ (fun _ => True) (fun _ => False) rfl rfl ?aO ?aR (fun _ _ h => h) (fun _ h => h.elim) ?aF ?aB ?aS ?aL ?_
 (case aR => exact ck_ (Kd.R_reads' HO443.out).2.2)
 (case aB => exact bh_)
 (case aF => exact (fun _ _ => trivial))
 (case aO => exact (by (with_reducible repeat (first | apply Kd.R_alloc | apply Kd.R_drewN | apply Kd.R_drew)); exact Kd.R_mono HO410.out (fun _ hk => trivial)))
 (case aS => exact bz_)
 (case aL => have := LMc19.out; omega)
 intro v445 w124 ho hb hg hat
 rw [← Ny444.out] at ho
 have n0_ := am_ (blk_grown (bk_ BK310.out) hg (Kd.R_ne HO410.out BK310.out (by decide)))
 have n1_ := am_ (blk_grown (bk_ BK311.out) hg (Kd.R_ne HO410.out BK311.out (by decide)))
 have n2_ := am_ (hb)
 have n3_ := am_ (ho)
 clear BK310
 clear BK311
 clear HB
 clear HO410
 clear HO443
 have BK310 := n0_
 have BK311 := n1_
 have HB := n2_
 have HO446 := n3_
 clear n0_ n1_ n2_ n3_
 clear ho hb hg hat
 obtain ⟨Ao126, co126, eo126⟩ := Kd.R_slice HO446.out
 (first | subst eo126 | (injection eo126 with f1_ f2_ f3_; have f4_ := f1_.symm; have f5_ := f3_.symm; clear f1_ f2_ f3_; subst f4_; subst f5_))
 refine hK.out _ _ (by first | exact (cz3_ BK311.out) | exact hHeld) (fun hHeld => ?_)
 clear hK K
 refine norm_ (a' := ?_) ?_ ?_
 rotate_left
 ·show Act.put _ (some 37) _ = _
  simp only [Act.put, sA_, sZ_, sS_, i64_w, i32_w]
  rfl
 refine pu_ 8 (some 38) (bf_ 10 511) HT_.out ?_
 refine last_ (i := 9) (N := none) (bf_ 10 1023) rfl rfl (one_of HT_.out (by kernel_rfl)) (by decide) (fun K hK => ?_)
 have hs127 : w124.cell? ⟨gb311, 1, none⟩ = some (.slice Ao114 y408.length co114) := (blk_cell BK311.out 1).trans rfl
 have hfs127 := blk_frozen BK311.out 1
 have hns127_0 := NB310_311.out
 have hms127_0 := NB311_310.out
 refine skip_ (w1 := ?_) (by rfl) rfl ?_ ?_
 rotate_left
 ·go_simp
  rfl
 refine hK.out _ _ ?_
 clear hK K
 refine done_ (done_of HT_.out (by kernel_rfl)) ?_
 try go_wp2
 have n0_ : Aside0 (Kd.R k33 33 (w124.setCell ⟨gb311, 1, none⟩ (.slice Ao126 y444.length co126)) w.heap.size (fun _ => True) (.slice Ao126 y444.length co126) y444) := ⟨fa_ HO446 BK311⟩
 have n1_ : Aside0 ((w124.setCell ⟨gb311, 1, none⟩ (.slice Ao126 y444.length co126)).heap[gb310]? = some (.cells #[.int .i64 0, .slice none 0 0, .slice none 0 0] 26 (0, 0))) := ⟨bf1_ NB310_311 BK310⟩
 have n2_ : Aside0 ((w124.setCell ⟨gb311, 1, none⟩ (.slice Ao126 y444.length co126)).heap[gb311]? = some (.cells #[.int .i64 5, .slice Ao126 y444.length co126, .slice none 0 0] 26 (0, 0))) := ⟨by refine bp_ ?_; refine blk_put (cs := #[.int .i64 5, .slice Ao114 y408.length co114, .slice none 0 0]) ?_ 1 _ rfl; exact bk_ BK311.out⟩
 have n3_ : Aside0 (Below w.heap.size w (w124.setCell ⟨gb311, 1, none⟩ (.slice Ao126 y444.length co126))) := ⟨bh_⟩
 (try clear HO446)
 (try clear BK310)
 (try clear BK311)
 (try clear HB)
 generalize (w124.setCell ⟨gb311, 1, none⟩ (.slice Ao126 y444.length co126)) = w128 at n0_ n1_ n2_ n3_ ⊢
 have HO446 := n0_
 have BK310 := n1_
 have BK311 := n2_
 have HB := n3_
 clear n0_ n1_ n2_ n3_
 replace HO446 := am_ (Kd.R_drew HO446.out)
 replace BK310 := am_ (blk_drew BK310.out)
 replace BK311 := am_ (blk_drew BK311.out)
 replace HB := am_ (below_drew1 HB.out)
 refine start_ (n := 12) (S := fun w' => w'.cell? ⟨gb311, 0, none⟩ = some (.int .i64 5) ∧ w'.cell? ⟨gb311, 1, none⟩ = some (.slice Ao126 y444.length co126) ∧ w'.cell? ⟨gb311, 2, none⟩ = some (.slice none 0 0)) (ds := [11]) (bf_ 12 0) (by kernel_rfl) rfl rfl (cz3_ BK311.out) (fun hHeld => ?_); refine with_tabW computusref24_Catalogue.tab6 computusref24_Catalogue.bits6 (fun HT_ HW_ => ?_)
 generalize w128.drew = w129 at HO446 BK310 BK311 HB hHeld ⊢
 refine pu_ 0 (some 39) (bf_ 12 1) HT_.out ?_
 refine ta_ 1 (some 40) (bf_ 12 3) HT_.out HW_.out hHeld ?_
 refine one_ (i := 2) (N := some 41) (bf_ 12 7) rfl rfl (one_of HT_.out (by kernel_rfl)) (by decide) (fun K hK => ?_)
 refine gs_ Try.func33 #[.int .i64 1, .int .i64 1] ?_
 with_reducible refine (computusref24_fixed.calls 1 1 t447 t448 t449 t450 t451 t452 _ A20.out).mono ?_
 rintro e w130 ⟨rfl, hb⟩
 refine ⟨_, rfl, ?_⟩
 replace HO446 := rw_ HO446 hb
 replace BK310 := bw_ BK310 hb
 replace BK311 := bw_ BK311 hb
 replace HB := bt_ hb
 (try clear hb)
 (try clear hb2)
 (try clear hk)
 (try clear hi)
 refine hK.out _ _ (by first | exact (cz3_ BK311.out) | exact hHeld) (fun hHeld => ?_)
 clear hK K
 refine norm_ (a' := ?_) ?_ ?_
 rotate_left
 ·show Act.put _ (some 41) _ = _
  simp only [Act.put, sA_, sZ_, sS_, i64_w, i32_w]
  rfl
 refine one_ (i := 3) (N := some 42) (bf_ 12 15) rfl rfl (one_of HT_.out (by kernel_rfl)) (by decide) (fun K hK => ?_)
 refine gs_ Try.func34 #[.string (⟨#[109, 97, 114, 121, 45, 109, 111, 116, 104, 101, 114, 45, 111, 102, 45, 103, 111, 100]⟩ : ByteArray), .int .i64 1, .int .i64 2, .agg #[.int .i64 t447, .int .i64 t448, .int .i64 t449, .int .i64 t450, .int .i64 t451, .int .i64 t452]] ?_
 with_reducible refine (computusref24_feast.calls (⟨#[109, 97, 114, 121, 45, 109, 111, 116, 104, 101, 114, 45, 111, 102, 45, 103, 111, 100]⟩ : ByteArray) 1 2 t447 t448 t449 t450 t451 t452 t453 t454 t455 t456 t457 t458 t459 t460 t461 _ A21.out).mono ?_
 rintro e w131 ⟨rfl, hb⟩
 refine ⟨_, rfl, ?_⟩
 replace HO446 := rw_ HO446 hb
 replace BK310 := bw_ BK310 hb
 replace BK311 := bw_ BK311 hb
 replace HB := bt_ hb
 (try clear hb)
 (try clear hb2)
 (try clear hk)
 (try clear hi)
 refine hK.out _ _ (by first | exact (cz3_ BK311.out) | exact hHeld) (fun hHeld => ?_)
 clear hK K
 refine norm_ (a' := ?_) ?_ ?_
 rotate_left
 ·show Act.put _ (some 42) _ = _
  simp only [Act.put, sA_, sZ_, sS_, i64_w, i32_w]
  rfl
 refine one_ (i := 4) (N := some 43) (bf_ 12 31) rfl rfl (one_of HT_.out (by kernel_rfl)) (by decide) (fun K hK => ?_)
 refine gs_ Try.func33 #[.int .i64 1, .int .i64 6] ?_
 with_reducible refine (computusref24_fixed.calls 1 6 t462 t463 t464 t465 t466 t467 _ A22.out).mono ?_
 rintro e w132 ⟨rfl, hb⟩
 refine ⟨_, rfl, ?_⟩
 replace HO446 := rw_ HO446 hb
 replace BK310 := bw_ BK310 hb
 replace BK311 := bw_ BK311 hb
 replace HB := bt_ hb
 (try clear hb)
 (try clear hb2)
 (try clear hk)
 (try clear hi)
 refine hK.out _ _ (by first | exact (cz3_ BK311.out) | exact hHeld) (fun hHeld => ?_)
 clear hK K
 refine norm_ (a' := ?_) ?_ ?_
 rotate_left
 ·show Act.put _ (some 43) _ = _
  simp only [Act.put, sA_, sZ_, sS_, i64_w, i32_w]
  rfl
 refine one_ (i := 5) (N := some 44) (bf_ 12 63) rfl rfl (one_of HT_.out (by kernel_rfl)) (by decide) (fun K hK => ?_)
 refine gs_ Try.func34 #[.string (⟨#[101, 112, 105, 112, 104, 97, 110, 121]⟩ : ByteArray), .int .i64 1, .int .i64 2, .agg #[.int .i64 t462, .int .i64 t463, .int .i64 t464, .int .i64 t465, .int .i64 t466, .int .i64 t467]] ?_
 with_reducible refine (computusref24_feast.calls (⟨#[101, 112, 105, 112, 104, 97, 110, 121]⟩ : ByteArray) 1 2 t462 t463 t464 t465 t466 t467 t468 t469 t470 t471 t472 t473 t474 t475 t476 _ A23.out).mono ?_
 rintro e w133 ⟨rfl, hb⟩
 refine ⟨_, rfl, ?_⟩
 replace HO446 := rw_ HO446 hb
 replace BK310 := bw_ BK310 hb
 replace BK311 := bw_ BK311 hb
 replace HB := bt_ hb
 (try clear hb)
 (try clear hb2)
 (try clear hk)
 (try clear hi)
 refine hK.out _ _ (by first | exact (cz3_ BK311.out) | exact hHeld) (fun hHeld => ?_)
 clear hK K
 refine norm_ (a' := ?_) ?_ ?_
 rotate_left
 ·show Act.put _ (some 44) _ = _
  simp only [Act.put, sA_, sZ_, sS_, i64_w, i32_w]
  rfl
 refine one_ (i := 6) (N := some 45) (bf_ 12 127) rfl rfl (one_of HT_.out (by kernel_rfl)) (by decide) (fun K hK => ?_)
 refine gs_ Try.func32 #[.int .i64 1, .int .i64 7] ?_
 with_reducible refine (computusref24_sunday.calls 1 7 t477 t478 t479 t480 t481 t482 _ A24.out).mono ?_
 rintro e w134 ⟨rfl, hb⟩
 refine ⟨_, rfl, ?_⟩
 replace HO446 := rw_ HO446 hb
 replace BK310 := bw_ BK310 hb
 replace BK311 := bw_ BK311 hb
 replace HB := bt_ hb
 (try clear hb)
 (try clear hb2)
 (try clear hk)
 (try clear hi)
 refine hK.out _ _ (by first | exact (cz3_ BK311.out) | exact hHeld) (fun hHeld => ?_)
 clear hK K
 refine norm_ (a' := ?_) ?_ ?_
 rotate_left
 ·show Act.put _ (some 45) _ = _
  simp only [Act.put, sA_, sZ_, sS_, i64_w, i32_w]
  rfl
 refine one_ (i := 7) (N := some 46) (bf_ 12 255) rfl rfl (one_of HT_.out (by kernel_rfl)) (by decide) (fun K hK => ?_)
 refine gs_ Try.func34 #[.string (⟨#[98, 97, 112, 116, 105, 115, 109, 45, 111, 102, 45, 116, 104, 101, 45, 108, 111, 114, 100]⟩ : ByteArray), .int .i64 2, .int .i64 3, .agg #[.int .i64 t477, .int .i64 t478, .int .i64 t479, .int .i64 t480, .int .i64 t481, .int .i64 t482]] ?_
 with_reducible refine (computusref24_feast.calls (⟨#[98, 97, 112, 116, 105, 115, 109, 45, 111, 102, 45, 116, 104, 101, 45, 108, 111, 114, 100]⟩ : ByteArray) 2 3 t477 t478 t479 t480 t481 t482 t483 t484 t485 t486 t487 t488 t489 t490 t491 _ A25.out).mono ?_
 rintro e w135 ⟨rfl, hb⟩
 refine ⟨_, rfl, ?_⟩
 replace HO446 := rw_ HO446 hb
 replace BK310 := bw_ BK310 hb
 replace BK311 := bw_ BK311 hb
 replace HB := bt_ hb
 (try clear hb)
 (try clear hb2)
 (try clear hk)
 (try clear hi)
 refine hK.out _ _ (by first | exact (cz3_ BK311.out) | exact hHeld) (fun hHeld => ?_)
 clear hK K
 refine norm_ (a' := ?_) ?_ ?_
 rotate_left
 ·show Act.put _ (some 46) _ = _
  simp only [Act.put, sA_, sZ_, sS_, i64_w, i32_w]
  rfl
 refine one_ (i := 8) (N := some 47) (bf_ 12 511) rfl rfl (one_of HT_.out (by kernel_rfl)) (by decide) (fun K hK => ?_)
 refine Kd.R_lit_step k35 _ 35 ?hg (N := 47) ?hd (xs := ([(⟨t453, t454, t455, (⟨t456, t457, t458, t459, t460, t461⟩ : S31)⟩ : S35), (⟨t468, t469, t470, (⟨t471, t472, t473, t474, t475, t476⟩ : S31)⟩ : S35), (⟨t483, t484, t485, (⟨t486, t487, t488, t489, t490, t491⟩ : S31)⟩ : S35)] : List (S35))) (inner := [.string t453, .int .i64 t454, .int .i64 t455, .int .i64 t456, .int .i64 t457, .int .i64 t458, .int .i64 t459, .int .i64 t460, .int .i64 t461, .string t468, .int .i64 t469, .int .i64 t470, .int .i64 t471, .int .i64 t472, .int .i64 t473, .int .i64 t474, .int .i64 t475, .int .i64 t476, .string t483, .int .i64 t484, .int .i64 t485, .int .i64 t486, .int .i64 t487, .int .i64 t488, .int .i64 t489, .int .i64 t490, .int .i64 t491]) (ok := fun _ => True) (okp := fun _ => True) ?hr ?hp (fun _ hk => hk) trivial (Below.refl _ _) (Nat.le_refl _) (by simp) ?_; (case hd => rfl); (case hg => rfl); (case hr => first | (go_simp; done) | (go_simp; rfl)); (case hp => exact (Reps.c9 (show Kd.M k35 _ _ _ (⟨t453, t454, t455, (⟨t456, t457, t458, t459, t460, t461⟩ : S31)⟩ : S35) [.string t453, .int .i64 t454, .int .i64 t455, .int .i64 t456, .int .i64 t457, .int .i64 t458, .int .i64 t459, .int .i64 t460, .int .i64 t461] from (k35_mkM _ _ _ (⟨t453, t454, t455, (⟨t456, t457, t458, t459, t460, t461⟩ : S31)⟩ : S35) )) (Reps.c9 (show Kd.M k35 _ _ _ (⟨t468, t469, t470, (⟨t471, t472, t473, t474, t475, t476⟩ : S31)⟩ : S35) [.string t468, .int .i64 t469, .int .i64 t470, .int .i64 t471, .int .i64 t472, .int .i64 t473, .int .i64 t474, .int .i64 t475, .int .i64 t476] from (k35_mkM _ _ _ (⟨t468, t469, t470, (⟨t471, t472, t473, t474, t475, t476⟩ : S31)⟩ : S35) )) (Reps.c9 (show Kd.M k35 _ _ _ (⟨t483, t484, t485, (⟨t486, t487, t488, t489, t490, t491⟩ : S31)⟩ : S35) [.string t483, .int .i64 t484, .int .i64 t485, .int .i64 t486, .int .i64 t487, .int .i64 t488, .int .i64 t489, .int .i64 t490, .int .i64 t491] from (k35_mkM _ _ _ (⟨t483, t484, t485, (⟨t486, t487, t488, t489, t490, t491⟩ : S31)⟩ : S35) )) (Reps.none _ _)))))
 intro v493 w136 ho137 hb hg_ hnew_
 clear hg_ hnew_
 (first | rw [← Ny492.out] at ho137 | (simp only [Int.reduceToNat] at ho137; rw [← Ny492.out] at ho137))
 replace HO446 := rw_ HO446 hb
 have HO494 := am_ (Kd.R_lower ho137 bz_)
 replace BK310 := bw_ BK310 hb
 replace BK311 := bw_ BK311 hb
 replace HB := bt_ hb
 clear hb ho137
 obtain ⟨Ao139, co139, eo139⟩ := Kd.R_slice HO494.out
 (first | subst eo139 | (injection eo139 with f1_ f2_ f3_; have f4_ := f1_.symm; have f5_ := f3_.symm; clear f1_ f2_ f3_; subst f4_; subst f5_))
 refine hK.out _ _ (by first | exact (cz3_ BK311.out) | exact hHeld) (fun hHeld => ?_)
 clear hK K
 refine norm_ (a' := ?_) ?_ ?_
 rotate_left
 ·show Act.put _ (some 47) _ = _
  simp only [Act.put, sA_, sZ_, sS_, i64_w, i32_w]
  rfl
 refine one_ (i := 9) (N := some 48) (bf_ 12 1023) rfl rfl (one_of HT_.out (by kernel_rfl)) (by decide) (fun K hK => ?_)
 refine Kd.R_append_rows_step k35 (w0 := w) w.heap.size (by rfl) (.tmp 40) (.tmp 47) 24 35 (.agg #[(.string ⟨#[]⟩), (.int .i64 0), (.int .i64 0), (.int .i64 0), (.int .i64 0), (.int .i64 0), (.int .i64 0), (.int .i64 0), (.int .i64 0)]) 80 rfl Try.underlying24 info35 rfl (by decide) (by omega) (.slice none 0 0) ([] : List (S35)) y492 _ _ _ (fun _ => True) (fun _ => False) rfl rfl ?aO ?aR (fun _ _ h => h) (fun _ h => h.elim) ?aF ?aB ?aS ?aL ?_
 (case aR => exact ck_ (Kd.R_reads' HO494.out).2.2)
 (case aB => exact bh_)
 (case aF => exact (fun _ _ => trivial))
 (case aO => exact ((Kd.R_nil _ _ _ _ (fun _ => True))))
 (case aS => exact bz_)
 (case aL => have := LMc26.out; omega)
 intro v496 w138 ho hb hg hat
 rw [← Ny495.out] at ho
 have n0_ := am_ (blk_grown (bk_ BK310.out) hg (by simp [Value.ownBlock]))
 have n1_ := am_ (blk_grown (bk_ BK311.out) hg (by simp [Value.ownBlock]))
 have n2_ := am_ (Kd.R_grown (rk_ HO446.out) hg (fun _ _ => by simp [Value.ownBlock]))
 have n3_ := am_ (hb)
 have n4_ := am_ (ho)
 clear BK310
 clear BK311
 clear HO446
 clear HB
 clear HO494
 have BK310 := n0_
 have BK311 := n1_
 have HO446 := n2_
 have HB := n3_
 have HO497 := n4_
 clear n0_ n1_ n2_ n3_ n4_
 clear ho hb hg hat
 obtain ⟨Ao140, co140, eo140⟩ := Kd.R_slice HO497.out
 (first | subst eo140 | (injection eo140 with f1_ f2_ f3_; have f4_ := f1_.symm; have f5_ := f3_.symm; clear f1_ f2_ f3_; subst f4_; subst f5_))
 refine hK.out _ _ (by first | exact (cz3_ BK311.out) | exact hHeld) (fun hHeld => ?_)
 clear hK K
 refine norm_ (a' := ?_) ?_ ?_
 rotate_left
 ·show Act.put _ (some 48) _ = _
  simp only [Act.put, sA_, sZ_, sS_, i64_w, i32_w]
  rfl
 refine pu_ 10 (some 49) (bf_ 12 2047) HT_.out ?_
 refine last_ (i := 11) (N := none) (bf_ 12 4095) rfl rfl (one_of HT_.out (by kernel_rfl)) (by decide) (fun K hK => ?_)
 have hs141 : w138.cell? ⟨gb311, 2, none⟩ = some (.slice none 0 0) := (blk_cell BK311.out 2).trans rfl
 have hfs141 := blk_frozen BK311.out 2
 have hns141_0 := NB310_311.out
 have hms141_0 := NB311_310.out
 refine skip_ (w1 := ?_) (by rfl) rfl ?_ ?_
 rotate_left
 ·go_simp
  rfl
 refine hK.out _ _ ?_
 clear hK K
 refine done_ (done_of HT_.out (by kernel_rfl)) ?_
 try go_wp2
 have n0_ : Aside0 (Kd.R k33 33 (w138.setCell ⟨gb311, 2, none⟩ (.slice Ao140 y495.length co140)) w.heap.size (fun _ => True) (.slice Ao126 y444.length co126) y444) := ⟨fa_ HO446 BK311⟩
 have n1_ : Aside0 (Kd.R k35 35 (w138.setCell ⟨gb311, 2, none⟩ (.slice Ao140 y495.length co140)) w.heap.size (fun _ => True) (.slice Ao140 y495.length co140) y495) := ⟨fa_ HO497 BK311⟩
 have n2_ : Aside0 ((w138.setCell ⟨gb311, 2, none⟩ (.slice Ao140 y495.length co140)).heap[gb310]? = some (.cells #[.int .i64 0, .slice none 0 0, .slice none 0 0] 26 (0, 0))) := ⟨bf1_ NB310_311 BK310⟩
 have n3_ : Aside0 ((w138.setCell ⟨gb311, 2, none⟩ (.slice Ao140 y495.length co140)).heap[gb311]? = some (.cells #[.int .i64 5, .slice Ao126 y444.length co126, .slice Ao140 y495.length co140] 26 (0, 0))) := ⟨by refine bp_ ?_; refine blk_put (cs := #[.int .i64 5, .slice Ao126 y444.length co126, .slice none 0 0]) ?_ 2 _ rfl; exact bk_ BK311.out⟩
 have n4_ : Aside0 (Below w.heap.size w (w138.setCell ⟨gb311, 2, none⟩ (.slice Ao140 y495.length co140))) := ⟨bh_⟩
 (try clear HO446)
 (try clear HO497)
 (try clear BK310)
 (try clear BK311)
 (try clear HB)
 generalize (w138.setCell ⟨gb311, 2, none⟩ (.slice Ao140 y495.length co140)) = w142 at n0_ n1_ n2_ n3_ n4_ ⊢
 have HO446 := n0_
 have HO497 := n1_
 have BK310 := n2_
 have BK311 := n3_
 have HB := n4_
 clear n0_ n1_ n2_ n3_ n4_
 replace HO446 := am_ (Kd.R_drew HO446.out)
 replace HO497 := am_ (Kd.R_drew HO497.out)
 replace BK310 := am_ (blk_drew BK310.out)
 replace BK311 := am_ (blk_drew BK311.out)
 replace HB := am_ (below_drew1 HB.out)
 refine start_ (n := 12) (S := fun w' => w'.cell? ⟨gb311, 0, none⟩ = some (.int .i64 5) ∧ w'.cell? ⟨gb311, 1, none⟩ = some (.slice Ao126 y444.length co126) ∧ w'.cell? ⟨gb311, 2, none⟩ = some (.slice Ao140 y495.length co140)) (ds := [11]) (bf_ 12 0) (by kernel_rfl) rfl rfl (cz3_ BK311.out) (fun hHeld => ?_); refine with_tabW computusref24_Catalogue.tab7 computusref24_Catalogue.bits7 (fun HT_ HW_ => ?_)
 generalize w142.drew = w143 at HO446 HO497 BK310 BK311 HB hHeld ⊢
 refine pu_ 0 (some 50) (bf_ 12 1) HT_.out ?_
 refine ta_ 1 (some 51) (bf_ 12 3) HT_.out HW_.out hHeld ?_
 refine one_ (i := 2) (N := some 52) (bf_ 12 7) rfl rfl (one_of HT_.out (by kernel_rfl)) (by decide) (fun K hK => ?_)
 refine gs_ Try.func33 #[.int .i64 1, .int .i64 25] ?_
 with_reducible refine (computusref24_fixed.calls 1 25 t498 t499 t500 t501 t502 t503 _ A27.out).mono ?_
 rintro e w144 ⟨rfl, hb⟩
 refine ⟨_, rfl, ?_⟩
 replace HO446 := rw_ HO446 hb
 replace HO497 := rw_ HO497 hb
 replace BK310 := bw_ BK310 hb
 replace BK311 := bw_ BK311 hb
 replace HB := bt_ hb
 (try clear hb)
 (try clear hb2)
 (try clear hk)
 (try clear hi)
 refine hK.out _ _ (by first | exact (cz3_ BK311.out) | exact hHeld) (fun hHeld => ?_)
 clear hK K
 refine norm_ (a' := ?_) ?_ ?_
 rotate_left
 ·show Act.put _ (some 52) _ = _
  simp only [Act.put, sA_, sZ_, sS_, i64_w, i32_w]
  rfl
 refine one_ (i := 3) (N := some 53) (bf_ 12 15) rfl rfl (one_of HT_.out (by kernel_rfl)) (by decide) (fun K hK => ?_)
 refine gs_ Try.func34 #[.string (⟨#[99, 111, 110, 118, 101, 114, 115, 105, 111, 110, 45, 111, 102, 45, 112, 97, 117, 108]⟩ : ByteArray), .int .i64 4, .int .i64 3, .agg #[.int .i64 t498, .int .i64 t499, .int .i64 t500, .int .i64 t501, .int .i64 t502, .int .i64 t503]] ?_
 with_reducible refine (computusref24_feast.calls (⟨#[99, 111, 110, 118, 101, 114, 115, 105, 111, 110, 45, 111, 102, 45, 112, 97, 117, 108]⟩ : ByteArray) 4 3 t498 t499 t500 t501 t502 t503 t504 t505 t506 t507 t508 t509 t510 t511 t512 _ A28.out).mono ?_
 rintro e w145 ⟨rfl, hb⟩
 refine ⟨_, rfl, ?_⟩
 replace HO446 := rw_ HO446 hb
 replace HO497 := rw_ HO497 hb
 replace BK310 := bw_ BK310 hb
 replace BK311 := bw_ BK311 hb
 replace HB := bt_ hb
 (try clear hb)
 (try clear hb2)
 (try clear hk)
 (try clear hi)
 refine hK.out _ _ (by first | exact (cz3_ BK311.out) | exact hHeld) (fun hHeld => ?_)
 clear hK K
 refine norm_ (a' := ?_) ?_ ?_
 rotate_left
 ·show Act.put _ (some 53) _ = _
  simp only [Act.put, sA_, sZ_, sS_, i64_w, i32_w]
  rfl
 refine one_ (i := 4) (N := some 54) (bf_ 12 31) rfl rfl (one_of HT_.out (by kernel_rfl)) (by decide) (fun K hK => ?_)
 refine gs_ Try.func33 #[.int .i64 2, .int .i64 2] ?_
 with_reducible refine (computusref24_fixed.calls 2 2 t513 t514 t515 t516 t517 t518 _ A29.out).mono ?_
 rintro e w146 ⟨rfl, hb⟩
 refine ⟨_, rfl, ?_⟩
 replace HO446 := rw_ HO446 hb
 replace HO497 := rw_ HO497 hb
 replace BK310 := bw_ BK310 hb
 replace BK311 := bw_ BK311 hb
 replace HB := bt_ hb
 (try clear hb)
 (try clear hb2)
 (try clear hk)
 (try clear hi)
 refine hK.out _ _ (by first | exact (cz3_ BK311.out) | exact hHeld) (fun hHeld => ?_)
 clear hK K
 refine norm_ (a' := ?_) ?_ ?_
 rotate_left
 ·show Act.put _ (some 54) _ = _
  simp only [Act.put, sA_, sZ_, sS_, i64_w, i32_w]
  rfl
 refine one_ (i := 5) (N := some 55) (bf_ 12 63) rfl rfl (one_of HT_.out (by kernel_rfl)) (by decide) (fun K hK => ?_)
 refine gs_ Try.func34 #[.string (⟨#[112, 114, 101, 115, 101, 110, 116, 97, 116, 105, 111, 110]⟩ : ByteArray), .int .i64 2, .int .i64 3, .agg #[.int .i64 t513, .int .i64 t514, .int .i64 t515, .int .i64 t516, .int .i64 t517, .int .i64 t518]] ?_
 with_reducible refine (computusref24_feast.calls (⟨#[112, 114, 101, 115, 101, 110, 116, 97, 116, 105, 111, 110]⟩ : ByteArray) 2 3 t513 t514 t515 t516 t517 t518 t519 t520 t521 t522 t523 t524 t525 t526 t527 _ A30.out).mono ?_
 rintro e w147 ⟨rfl, hb⟩
 refine ⟨_, rfl, ?_⟩
 replace HO446 := rw_ HO446 hb
 replace HO497 := rw_ HO497 hb
 replace BK310 := bw_ BK310 hb
 replace BK311 := bw_ BK311 hb
 replace HB := bt_ hb
 (try clear hb)
 (try clear hb2)
 (try clear hk)
 (try clear hi)
 refine hK.out _ _ (by first | exact (cz3_ BK311.out) | exact hHeld) (fun hHeld => ?_)
 clear hK K
 refine norm_ (a' := ?_) ?_ ?_
 rotate_left
 ·show Act.put _ (some 55) _ = _
  simp only [Act.put, sA_, sZ_, sS_, i64_w, i32_w]
  rfl
 refine one_ (i := 6) (N := some 56) (bf_ 12 127) rfl rfl (one_of HT_.out (by kernel_rfl)) (by decide) (fun K hK => ?_)
 refine gs_ Try.func33 #[.int .i64 2, .int .i64 22] ?_
 with_reducible refine (computusref24_fixed.calls 2 22 t528 t529 t530 t531 t532 t533 _ A31.out).mono ?_
 rintro e w148 ⟨rfl, hb⟩
 refine ⟨_, rfl, ?_⟩
 replace HO446 := rw_ HO446 hb
 replace HO497 := rw_ HO497 hb
 replace BK310 := bw_ BK310 hb
 replace BK311 := bw_ BK311 hb
 replace HB := bt_ hb
 (try clear hb)
 (try clear hb2)
 (try clear hk)
 (try clear hi)
 refine hK.out _ _ (by first | exact (cz3_ BK311.out) | exact hHeld) (fun hHeld => ?_)
 clear hK K
 refine norm_ (a' := ?_) ?_ ?_
 rotate_left
 ·show Act.put _ (some 56) _ = _
  simp only [Act.put, sA_, sZ_, sS_, i64_w, i32_w]
  rfl
 refine one_ (i := 7) (N := some 57) (bf_ 12 255) rfl rfl (one_of HT_.out (by kernel_rfl)) (by decide) (fun K hK => ?_)
 refine gs_ Try.func34 #[.string (⟨#[99, 104, 97, 105, 114, 45, 111, 102, 45, 112, 101, 116, 101, 114]⟩ : ByteArray), .int .i64 4, .int .i64 2, .agg #[.int .i64 t528, .int .i64 t529, .int .i64 t530, .int .i64 t531, .int .i64 t532, .int .i64 t533]] ?_
 with_reducible refine (computusref24_feast.calls (⟨#[99, 104, 97, 105, 114, 45, 111, 102, 45, 112, 101, 116, 101, 114]⟩ : ByteArray) 4 2 t528 t529 t530 t531 t532 t533 t534 t535 t536 t537 t538 t539 t540 t541 t542 _ A32.out).mono ?_
 rintro e w149 ⟨rfl, hb⟩
 refine ⟨_, rfl, ?_⟩
 replace HO446 := rw_ HO446 hb
 replace HO497 := rw_ HO497 hb
 replace BK310 := bw_ BK310 hb
 replace BK311 := bw_ BK311 hb
 replace HB := bt_ hb
 (try clear hb)
 (try clear hb2)
 (try clear hk)
 (try clear hi)
 refine hK.out _ _ (by first | exact (cz3_ BK311.out) | exact hHeld) (fun hHeld => ?_)
 clear hK K
 refine norm_ (a' := ?_) ?_ ?_
 rotate_left
 ·show Act.put _ (some 57) _ = _
  simp only [Act.put, sA_, sZ_, sS_, i64_w, i32_w]
  rfl
 refine one_ (i := 8) (N := some 58) (bf_ 12 511) rfl rfl (one_of HT_.out (by kernel_rfl)) (by decide) (fun K hK => ?_)
 refine Kd.R_lit_step k35 _ 35 ?hg (N := 58) ?hd (xs := ([(⟨t504, t505, t506, (⟨t507, t508, t509, t510, t511, t512⟩ : S31)⟩ : S35), (⟨t519, t520, t521, (⟨t522, t523, t524, t525, t526, t527⟩ : S31)⟩ : S35), (⟨t534, t535, t536, (⟨t537, t538, t539, t540, t541, t542⟩ : S31)⟩ : S35)] : List (S35))) (inner := [.string t504, .int .i64 t505, .int .i64 t506, .int .i64 t507, .int .i64 t508, .int .i64 t509, .int .i64 t510, .int .i64 t511, .int .i64 t512, .string t519, .int .i64 t520, .int .i64 t521, .int .i64 t522, .int .i64 t523, .int .i64 t524, .int .i64 t525, .int .i64 t526, .int .i64 t527, .string t534, .int .i64 t535, .int .i64 t536, .int .i64 t537, .int .i64 t538, .int .i64 t539, .int .i64 t540, .int .i64 t541, .int .i64 t542]) (ok := fun _ => True) (okp := fun _ => True) ?hr ?hp (fun _ hk => hk) trivial (Below.refl _ _) (Nat.le_refl _) (by simp) ?_; (case hd => rfl); (case hg => rfl); (case hr => first | (go_simp; done) | (go_simp; rfl)); (case hp => exact (Reps.c9 (show Kd.M k35 _ _ _ (⟨t504, t505, t506, (⟨t507, t508, t509, t510, t511, t512⟩ : S31)⟩ : S35) [.string t504, .int .i64 t505, .int .i64 t506, .int .i64 t507, .int .i64 t508, .int .i64 t509, .int .i64 t510, .int .i64 t511, .int .i64 t512] from (k35_mkM _ _ _ (⟨t504, t505, t506, (⟨t507, t508, t509, t510, t511, t512⟩ : S31)⟩ : S35) )) (Reps.c9 (show Kd.M k35 _ _ _ (⟨t519, t520, t521, (⟨t522, t523, t524, t525, t526, t527⟩ : S31)⟩ : S35) [.string t519, .int .i64 t520, .int .i64 t521, .int .i64 t522, .int .i64 t523, .int .i64 t524, .int .i64 t525, .int .i64 t526, .int .i64 t527] from (k35_mkM _ _ _ (⟨t519, t520, t521, (⟨t522, t523, t524, t525, t526, t527⟩ : S31)⟩ : S35) )) (Reps.c9 (show Kd.M k35 _ _ _ (⟨t534, t535, t536, (⟨t537, t538, t539, t540, t541, t542⟩ : S31)⟩ : S35) [.string t534, .int .i64 t535, .int .i64 t536, .int .i64 t537, .int .i64 t538, .int .i64 t539, .int .i64 t540, .int .i64 t541, .int .i64 t542] from (k35_mkM _ _ _ (⟨t534, t535, t536, (⟨t537, t538, t539, t540, t541, t542⟩ : S31)⟩ : S35) )) (Reps.none _ _)))))
 intro v544 w150 ho151 hb hg_ hnew_
 clear hg_ hnew_
 (first | rw [← Ny543.out] at ho151 | (simp only [Int.reduceToNat] at ho151; rw [← Ny543.out] at ho151))
 replace HO446 := rw_ HO446 hb
 have HO545 := am_ (Kd.R_lower (Kd.R_new' ho151 (Kd.R_lt (rk_ HO497.out))) bz_)
 replace HO497 := am_ (Kd.R_elder' (rk_ HO497.out) (Kd.R_base ho151) hb)
 replace BK310 := bw_ BK310 hb
 replace BK311 := bw_ BK311 hb
 replace HB := bt_ hb
 clear hb ho151
 obtain ⟨Ao153, co153, eo153⟩ := Kd.R_slice HO545.out
 (first | subst eo153 | (injection eo153 with f1_ f2_ f3_; have f4_ := f1_.symm; have f5_ := f3_.symm; clear f1_ f2_ f3_; subst f4_; subst f5_))
 refine hK.out _ _ (by first | exact (cz3_ BK311.out) | exact hHeld) (fun hHeld => ?_)
 clear hK K
 refine norm_ (a' := ?_) ?_ ?_
 rotate_left
 ·show Act.put _ (some 58) _ = _
  simp only [Act.put, sA_, sZ_, sS_, i64_w, i32_w]
  rfl
 refine one_ (i := 9) (N := some 59) (bf_ 12 1023) rfl rfl (one_of HT_.out (by kernel_rfl)) (by decide) (fun K hK => ?_)
 refine Kd.R_append_rows_step k35 (w0 := w) w.heap.size (by rfl) (.tmp 51) (.tmp 58) 24 35 (.agg #[(.string ⟨#[]⟩), (.int .i64 0), (.int .i64 0), (.int .i64 0), (.int .i64 0), (.int .i64 0), (.int .i64 0), (.int .i64 0), (.int .i64 0)]) 80 rfl Try.underlying24 info35 rfl (by decide) (by omega) (.slice Ao140 y495.length co140) y495 y543 _ _ _ (fun _ => True) (fun _ => False) rfl rfl ?aO ?aR (fun _ _ h => h) (fun _ h => h.elim) ?aF ?aB ?aS ?aL ?_
 (case aR => exact ck_ (Kd.R_reads' HO545.out).2.2)
 (case aB => exact bh_)
 (case aF => exact (fun _ _ => trivial))
 (case aO => exact (by (with_reducible repeat (first | apply Kd.R_alloc | apply Kd.R_drewN | apply Kd.R_drew)); exact Kd.R_mono HO497.out (fun _ hk => trivial)))
 (case aS => exact bz_)
 (case aL => have := LMc33.out; omega)
 intro v547 w152 ho hb hg hat
 rw [← Ny546.out] at ho
 have n0_ := am_ (blk_grown (bk_ BK310.out) hg (Kd.R_ne HO497.out BK310.out (by decide)))
 have n1_ := am_ (blk_grown (bk_ BK311.out) hg (Kd.R_ne HO497.out BK311.out (by decide)))
 have n2_ := am_ (Kd.R_over' (rk_ HO446.out) (Kd.R_typed (rk_ HO497.out)) (by decide) hg)
 have n3_ := am_ (hb)
 have n4_ := am_ (ho)
 clear BK310
 clear BK311
 clear HO446
 clear HB
 clear HO497
 clear HO545
 have BK310 := n0_
 have BK311 := n1_
 have HO446 := n2_
 have HB := n3_
 have HO548 := n4_
 clear n0_ n1_ n2_ n3_ n4_
 clear ho hb hg hat
 obtain ⟨Ao154, co154, eo154⟩ := Kd.R_slice HO548.out
 (first | subst eo154 | (injection eo154 with f1_ f2_ f3_; have f4_ := f1_.symm; have f5_ := f3_.symm; clear f1_ f2_ f3_; subst f4_; subst f5_))
 refine hK.out _ _ (by first | exact (cz3_ BK311.out) | exact hHeld) (fun hHeld => ?_)
 clear hK K
 refine norm_ (a' := ?_) ?_ ?_
 rotate_left
 ·show Act.put _ (some 59) _ = _
  simp only [Act.put, sA_, sZ_, sS_, i64_w, i32_w]
  rfl
 refine pu_ 10 (some 60) (bf_ 12 2047) HT_.out ?_
 refine last_ (i := 11) (N := none) (bf_ 12 4095) rfl rfl (one_of HT_.out (by kernel_rfl)) (by decide) (fun K hK => ?_)
 have hs155 : w152.cell? ⟨gb311, 2, none⟩ = some (.slice Ao140 y495.length co140) := (blk_cell BK311.out 2).trans rfl
 have hfs155 := blk_frozen BK311.out 2
 have hns155_0 := NB310_311.out
 have hms155_0 := NB311_310.out
 refine skip_ (w1 := ?_) (by rfl) rfl ?_ ?_
 rotate_left
 ·go_simp
  rfl
 refine hK.out _ _ ?_
 clear hK K
 refine done_ (done_of HT_.out (by kernel_rfl)) ?_
 try go_wp2
 have n0_ : Aside0 (Kd.R k33 33 (w152.setCell ⟨gb311, 2, none⟩ (.slice Ao154 y546.length co154)) w.heap.size (fun _ => True) (.slice Ao126 y444.length co126) y444) := ⟨fa_ HO446 BK311⟩
 have n1_ : Aside0 (Kd.R k35 35 (w152.setCell ⟨gb311, 2, none⟩ (.slice Ao154 y546.length co154)) w.heap.size (fun _ => True) (.slice Ao154 y546.length co154) y546) := ⟨fa_ HO548 BK311⟩
 have n2_ : Aside0 ((w152.setCell ⟨gb311, 2, none⟩ (.slice Ao154 y546.length co154)).heap[gb310]? = some (.cells #[.int .i64 0, .slice none 0 0, .slice none 0 0] 26 (0, 0))) := ⟨bf1_ NB310_311 BK310⟩
 have n3_ : Aside0 ((w152.setCell ⟨gb311, 2, none⟩ (.slice Ao154 y546.length co154)).heap[gb311]? = some (.cells #[.int .i64 5, .slice Ao126 y444.length co126, .slice Ao154 y546.length co154] 26 (0, 0))) := ⟨by refine bp_ ?_; refine blk_put (cs := #[.int .i64 5, .slice Ao126 y444.length co126, .slice Ao140 y495.length co140]) ?_ 2 _ rfl; exact bk_ BK311.out⟩
 have n4_ : Aside0 (Below w.heap.size w (w152.setCell ⟨gb311, 2, none⟩ (.slice Ao154 y546.length co154))) := ⟨bh_⟩
 (try clear HO446)
 (try clear HO548)
 (try clear BK310)
 (try clear BK311)
 (try clear HB)
 generalize (w152.setCell ⟨gb311, 2, none⟩ (.slice Ao154 y546.length co154)) = w156 at n0_ n1_ n2_ n3_ n4_ ⊢
 have HO446 := n0_
 have HO548 := n1_
 have BK310 := n2_
 have BK311 := n3_
 have HB := n4_
 clear n0_ n1_ n2_ n3_ n4_
 replace HO446 := am_ (Kd.R_drew HO446.out)
 replace HO548 := am_ (Kd.R_drew HO548.out)
 replace BK310 := am_ (blk_drew BK310.out)
 replace BK311 := am_ (blk_drew BK311.out)
 replace HB := am_ (below_drew1 HB.out)
 refine start_ (n := 10) (S := fun w' => w'.cell? ⟨gb311, 0, none⟩ = some (.int .i64 5) ∧ w'.cell? ⟨gb311, 1, none⟩ = some (.slice Ao126 y444.length co126) ∧ w'.cell? ⟨gb311, 2, none⟩ = some (.slice Ao154 y546.length co154)) (ds := [9]) (bf_ 10 0) (by kernel_rfl) rfl rfl (cz3_ BK311.out) (fun hHeld => ?_); refine with_tabW computusref24_Catalogue.tab8 computusref24_Catalogue.bits8 (fun HT_ HW_ => ?_)
 generalize w156.drew = w157 at HO446 HO548 BK310 BK311 HB hHeld ⊢
 refine pu_ 0 (some 61) (bf_ 10 1) HT_.out ?_
 refine ta_ 1 (some 62) (bf_ 10 3) HT_.out HW_.out hHeld ?_
 refine one_ (i := 2) (N := some 63) (bf_ 10 7) rfl rfl (one_of HT_.out (by kernel_rfl)) (by decide) (fun K hK => ?_)
 refine gs_ Try.func33 #[.int .i64 3, .int .i64 19] ?_
 with_reducible refine (computusref24_fixed.calls 3 19 t549 t550 t551 t552 t553 t554 _ A34.out).mono ?_
 rintro e w158 ⟨rfl, hb⟩
 refine ⟨_, rfl, ?_⟩
 replace HO446 := rw_ HO446 hb
 replace HO548 := rw_ HO548 hb
 replace BK310 := bw_ BK310 hb
 replace BK311 := bw_ BK311 hb
 replace HB := bt_ hb
 (try clear hb)
 (try clear hb2)
 (try clear hk)
 (try clear hi)
 refine hK.out _ _ (by first | exact (cz3_ BK311.out) | exact hHeld) (fun hHeld => ?_)
 clear hK K
 refine norm_ (a' := ?_) ?_ ?_
 rotate_left
 ·show Act.put _ (some 63) _ = _
  simp only [Act.put, sA_, sZ_, sS_, i64_w, i32_w]
  rfl
 refine one_ (i := 3) (N := some 64) (bf_ 10 15) rfl rfl (one_of HT_.out (by kernel_rfl)) (by decide) (fun K hK => ?_)
 refine gs_ Try.func34 #[.string (⟨#[106, 111, 115, 101, 112, 104]⟩ : ByteArray), .int .i64 1, .int .i64 1, .agg #[.int .i64 t549, .int .i64 t550, .int .i64 t551, .int .i64 t552, .int .i64 t553, .int .i64 t554]] ?_
 with_reducible refine (computusref24_feast.calls (⟨#[106, 111, 115, 101, 112, 104]⟩ : ByteArray) 1 1 t549 t550 t551 t552 t553 t554 t555 t556 t557 t558 t559 t560 t561 t562 t563 _ A35.out).mono ?_
 rintro e w159 ⟨rfl, hb⟩
 refine ⟨_, rfl, ?_⟩
 replace HO446 := rw_ HO446 hb
 replace HO548 := rw_ HO548 hb
 replace BK310 := bw_ BK310 hb
 replace BK311 := bw_ BK311 hb
 replace HB := bt_ hb
 (try clear hb)
 (try clear hb2)
 (try clear hk)
 (try clear hi)
 refine hK.out _ _ (by first | exact (cz3_ BK311.out) | exact hHeld) (fun hHeld => ?_)
 clear hK K
 refine norm_ (a' := ?_) ?_ ?_
 rotate_left
 ·show Act.put _ (some 64) _ = _
  simp only [Act.put, sA_, sZ_, sS_, i64_w, i32_w]
  rfl
 refine one_ (i := 4) (N := some 65) (bf_ 10 31) rfl rfl (one_of HT_.out (by kernel_rfl)) (by decide) (fun K hK => ?_)
 refine gs_ Try.func33 #[.int .i64 3, .int .i64 25] ?_
 with_reducible refine (computusref24_fixed.calls 3 25 t564 t565 t566 t567 t568 t569 _ A36.out).mono ?_
 rintro e w160 ⟨rfl, hb⟩
 refine ⟨_, rfl, ?_⟩
 replace HO446 := rw_ HO446 hb
 replace HO548 := rw_ HO548 hb
 replace BK310 := bw_ BK310 hb
 replace BK311 := bw_ BK311 hb
 replace HB := bt_ hb
 (try clear hb)
 (try clear hb2)
 (try clear hk)
 (try clear hi)
 refine hK.out _ _ (by first | exact (cz3_ BK311.out) | exact hHeld) (fun hHeld => ?_)
 clear hK K
 refine norm_ (a' := ?_) ?_ ?_
 rotate_left
 ·show Act.put _ (some 65) _ = _
  simp only [Act.put, sA_, sZ_, sS_, i64_w, i32_w]
  rfl
 refine one_ (i := 5) (N := some 66) (bf_ 10 63) rfl rfl (one_of HT_.out (by kernel_rfl)) (by decide) (fun K hK => ?_)
 refine gs_ Try.func34 #[.string (⟨#[97, 110, 110, 117, 110, 99, 105, 97, 116, 105, 111, 110]⟩ : ByteArray), .int .i64 1, .int .i64 1, .agg #[.int .i64 t564, .int .i64 t565, .int .i64 t566, .int .i64 t567, .int .i64 t568, .int .i64 t569]] ?_
 with_reducible refine (computusref24_feast.calls (⟨#[97, 110, 110, 117, 110, 99, 105, 97, 116, 105, 111, 110]⟩ : ByteArray) 1 1 t564 t565 t566 t567 t568 t569 t570 t571 t572 t573 t574 t575 t576 t577 t578 _ A37.out).mono ?_
 rintro e w161 ⟨rfl, hb⟩
 refine ⟨_, rfl, ?_⟩
 replace HO446 := rw_ HO446 hb
 replace HO548 := rw_ HO548 hb
 replace BK310 := bw_ BK310 hb
 replace BK311 := bw_ BK311 hb
 replace HB := bt_ hb
 (try clear hb)
 (try clear hb2)
 (try clear hk)
 (try clear hi)
 refine hK.out _ _ (by first | exact (cz3_ BK311.out) | exact hHeld) (fun hHeld => ?_)
 clear hK K
 refine norm_ (a' := ?_) ?_ ?_
 rotate_left
 ·show Act.put _ (some 66) _ = _
  simp only [Act.put, sA_, sZ_, sS_, i64_w, i32_w]
  rfl
 refine one_ (i := 6) (N := some 67) (bf_ 10 127) rfl rfl (one_of HT_.out (by kernel_rfl)) (by decide) (fun K hK => ?_)
 refine Kd.R_lit_step k35 _ 35 ?hg (N := 67) ?hd (xs := ([(⟨t555, t556, t557, (⟨t558, t559, t560, t561, t562, t563⟩ : S31)⟩ : S35), (⟨t570, t571, t572, (⟨t573, t574, t575, t576, t577, t578⟩ : S31)⟩ : S35)] : List (S35))) (inner := [.string t555, .int .i64 t556, .int .i64 t557, .int .i64 t558, .int .i64 t559, .int .i64 t560, .int .i64 t561, .int .i64 t562, .int .i64 t563, .string t570, .int .i64 t571, .int .i64 t572, .int .i64 t573, .int .i64 t574, .int .i64 t575, .int .i64 t576, .int .i64 t577, .int .i64 t578]) (ok := fun _ => True) (okp := fun _ => True) ?hr ?hp (fun _ hk => hk) trivial (Below.refl _ _) (Nat.le_refl _) (by simp) ?_; (case hd => rfl); (case hg => rfl); (case hr => first | (go_simp; done) | (go_simp; rfl)); (case hp => exact (Reps.c9 (show Kd.M k35 _ _ _ (⟨t555, t556, t557, (⟨t558, t559, t560, t561, t562, t563⟩ : S31)⟩ : S35) [.string t555, .int .i64 t556, .int .i64 t557, .int .i64 t558, .int .i64 t559, .int .i64 t560, .int .i64 t561, .int .i64 t562, .int .i64 t563] from (k35_mkM _ _ _ (⟨t555, t556, t557, (⟨t558, t559, t560, t561, t562, t563⟩ : S31)⟩ : S35) )) (Reps.c9 (show Kd.M k35 _ _ _ (⟨t570, t571, t572, (⟨t573, t574, t575, t576, t577, t578⟩ : S31)⟩ : S35) [.string t570, .int .i64 t571, .int .i64 t572, .int .i64 t573, .int .i64 t574, .int .i64 t575, .int .i64 t576, .int .i64 t577, .int .i64 t578] from (k35_mkM _ _ _ (⟨t570, t571, t572, (⟨t573, t574, t575, t576, t577, t578⟩ : S31)⟩ : S35) )) (Reps.none _ _))))
 intro v580 w162 ho163 hb hg_ hnew_
 clear hg_ hnew_
 (first | rw [← Ny579.out] at ho163 | (simp only [Int.reduceToNat] at ho163; rw [← Ny579.out] at ho163))
 replace HO446 := rw_ HO446 hb
 have HO581 := am_ (Kd.R_lower (Kd.R_new' ho163 (Kd.R_lt (rk_ HO548.out))) bz_)
 replace HO548 := am_ (Kd.R_elder' (rk_ HO548.out) (Kd.R_base ho163) hb)
 replace BK310 := bw_ BK310 hb
 replace BK311 := bw_ BK311 hb
 replace HB := bt_ hb
 clear hb ho163
 obtain ⟨Ao165, co165, eo165⟩ := Kd.R_slice HO581.out
 (first | subst eo165 | (injection eo165 with f1_ f2_ f3_; have f4_ := f1_.symm; have f5_ := f3_.symm; clear f1_ f2_ f3_; subst f4_; subst f5_))
 refine hK.out _ _ (by first | exact (cz3_ BK311.out) | exact hHeld) (fun hHeld => ?_)
 clear hK K
 refine norm_ (a' := ?_) ?_ ?_
 rotate_left
 ·show Act.put _ (some 67) _ = _
  simp only [Act.put, sA_, sZ_, sS_, i64_w, i32_w]
  rfl
 refine one_ (i := 7) (N := some 68) (bf_ 10 255) rfl rfl (one_of HT_.out (by kernel_rfl)) (by decide) (fun K hK => ?_)
 refine Kd.R_append_rows_step k35 (w0 := w) w.heap.size (by rfl) (.tmp 62) (.tmp 67) 24 35 (.agg #[(.string ⟨#[]⟩), (.int .i64 0), (.int .i64 0), (.int .i64 0), (.int .i64 0), (.int .i64 0), (.int .i64 0), (.int .i64 0), (.int .i64 0)]) 80 rfl Try.underlying24 info35 rfl (by decide) (by omega) (.slice Ao154 y546.length co154) y546 y579 _ _ _ (fun _ => True) (fun _ => False) rfl rfl ?aO ?aR (fun _ _ h => h) (fun _ h => h.elim) ?aF ?aB ?aS ?aL ?_
 (case aR => exact ck_ (Kd.R_reads' HO581.out).2.2)
 (case aB => exact bh_)
 (case aF => exact (fun _ _ => trivial))
 (case aO => exact (by (with_reducible repeat (first | apply Kd.R_alloc | apply Kd.R_drewN | apply Kd.R_drew)); exact Kd.R_mono HO548.out (fun _ hk => trivial)))
 (case aS => exact bz_)
 (case aL => have := LMc38.out; omega)
 intro v583 w164 ho hb hg hat
 rw [← Ny582.out] at ho
 have n0_ := am_ (blk_grown (bk_ BK310.out) hg (Kd.R_ne HO548.out BK310.out (by decide)))
 have n1_ := am_ (blk_grown (bk_ BK311.out) hg (Kd.R_ne HO548.out BK311.out (by decide)))
 have n2_ := am_ (Kd.R_over' (rk_ HO446.out) (Kd.R_typed (rk_ HO548.out)) (by decide) hg)
 have n3_ := am_ (hb)
 have n4_ := am_ (ho)
 clear BK310
 clear BK311
 clear HO446
 clear HB
 clear HO548
 clear HO581
 have BK310 := n0_
 have BK311 := n1_
 have HO446 := n2_
 have HB := n3_
 have HO584 := n4_
 clear n0_ n1_ n2_ n3_ n4_
 clear ho hb hg hat
 obtain ⟨Ao166, co166, eo166⟩ := Kd.R_slice HO584.out
 (first | subst eo166 | (injection eo166 with f1_ f2_ f3_; have f4_ := f1_.symm; have f5_ := f3_.symm; clear f1_ f2_ f3_; subst f4_; subst f5_))
 refine hK.out _ _ (by first | exact (cz3_ BK311.out) | exact hHeld) (fun hHeld => ?_)
 clear hK K
 refine norm_ (a' := ?_) ?_ ?_
 rotate_left
 ·show Act.put _ (some 68) _ = _
  simp only [Act.put, sA_, sZ_, sS_, i64_w, i32_w]
  rfl
 refine pu_ 8 (some 69) (bf_ 10 511) HT_.out ?_
 refine last_ (i := 9) (N := none) (bf_ 10 1023) rfl rfl (one_of HT_.out (by kernel_rfl)) (by decide) (fun K hK => ?_)
 have hs167 : w164.cell? ⟨gb311, 2, none⟩ = some (.slice Ao154 y546.length co154) := (blk_cell BK311.out 2).trans rfl
 have hfs167 := blk_frozen BK311.out 2
 have hns167_0 := NB310_311.out
 have hms167_0 := NB311_310.out
 refine skip_ (w1 := ?_) (by rfl) rfl ?_ ?_
 rotate_left
 ·go_simp
  rfl
 refine hK.out _ _ ?_
 clear hK K
 refine done_ (done_of HT_.out (by kernel_rfl)) ?_
 try go_wp2
 have n0_ : Aside0 (Kd.R k33 33 (w164.setCell ⟨gb311, 2, none⟩ (.slice Ao166 y582.length co166)) w.heap.size (fun _ => True) (.slice Ao126 y444.length co126) y444) := ⟨fa_ HO446 BK311⟩
 have n1_ : Aside0 (Kd.R k35 35 (w164.setCell ⟨gb311, 2, none⟩ (.slice Ao166 y582.length co166)) w.heap.size (fun _ => True) (.slice Ao166 y582.length co166) y582) := ⟨fa_ HO584 BK311⟩
 have n2_ : Aside0 ((w164.setCell ⟨gb311, 2, none⟩ (.slice Ao166 y582.length co166)).heap[gb310]? = some (.cells #[.int .i64 0, .slice none 0 0, .slice none 0 0] 26 (0, 0))) := ⟨bf1_ NB310_311 BK310⟩
 have n3_ : Aside0 ((w164.setCell ⟨gb311, 2, none⟩ (.slice Ao166 y582.length co166)).heap[gb311]? = some (.cells #[.int .i64 5, .slice Ao126 y444.length co126, .slice Ao166 y582.length co166] 26 (0, 0))) := ⟨by refine bp_ ?_; refine blk_put (cs := #[.int .i64 5, .slice Ao126 y444.length co126, .slice Ao154 y546.length co154]) ?_ 2 _ rfl; exact bk_ BK311.out⟩
 have n4_ : Aside0 (Below w.heap.size w (w164.setCell ⟨gb311, 2, none⟩ (.slice Ao166 y582.length co166))) := ⟨bh_⟩
 (try clear HO446)
 (try clear HO584)
 (try clear BK310)
 (try clear BK311)
 (try clear HB)
 generalize (w164.setCell ⟨gb311, 2, none⟩ (.slice Ao166 y582.length co166)) = w168 at n0_ n1_ n2_ n3_ n4_ ⊢
 have HO446 := n0_
 have HO584 := n1_
 have BK310 := n2_
 have BK311 := n3_
 have HB := n4_
 clear n0_ n1_ n2_ n3_ n4_
 replace HO446 := am_ (Kd.R_drew HO446.out)
 replace HO584 := am_ (Kd.R_drew HO584.out)
 replace BK310 := am_ (blk_drew BK310.out)
 replace BK311 := am_ (blk_drew BK311.out)
 replace HB := am_ (below_drew1 HB.out)
 refine start_ (n := 12) (S := fun w' => w'.cell? ⟨gb311, 0, none⟩ = some (.int .i64 5) ∧ w'.cell? ⟨gb311, 1, none⟩ = some (.slice Ao126 y444.length co126) ∧ w'.cell? ⟨gb311, 2, none⟩ = some (.slice Ao166 y582.length co166)) (ds := [11]) (bf_ 12 0) (by kernel_rfl) rfl rfl (cz3_ BK311.out) (fun hHeld => ?_); refine with_tabW computusref24_Catalogue.tab9 computusref24_Catalogue.bits9 (fun HT_ HW_ => ?_)
 generalize w168.drew = w169 at HO446 HO584 BK310 BK311 HB hHeld ⊢
 refine pu_ 0 (some 70) (bf_ 12 1) HT_.out ?_
 refine ta_ 1 (some 71) (bf_ 12 3) HT_.out HW_.out hHeld ?_
 refine one_ (i := 2) (N := some 72) (bf_ 12 7) rfl rfl (one_of HT_.out (by kernel_rfl)) (by decide) (fun K hK => ?_)
 refine gs_ Try.func31 #[.int .i64 39] ?_
 with_reducible refine (computusref24_paschal.calls 39 t585 t586 t587 t588 t589 t590 _ A39.out).mono ?_
 rintro e w170 ⟨rfl, hb⟩
 refine ⟨_, rfl, ?_⟩
 replace HO446 := rw_ HO446 hb
 replace HO584 := rw_ HO584 hb
 replace BK310 := bw_ BK310 hb
 replace BK311 := bw_ BK311 hb
 replace HB := bt_ hb
 (try clear hb)
 (try clear hb2)
 (try clear hk)
 (try clear hi)
 refine hK.out _ _ (by first | exact (cz3_ BK311.out) | exact hHeld) (fun hHeld => ?_)
 clear hK K
 refine norm_ (a' := ?_) ?_ ?_
 rotate_left
 ·show Act.put _ (some 72) _ = _
  simp only [Act.put, sA_, sZ_, sS_, i64_w, i32_w]
  rfl
 refine one_ (i := 3) (N := some 73) (bf_ 12 15) rfl rfl (one_of HT_.out (by kernel_rfl)) (by decide) (fun K hK => ?_)
 refine gs_ Try.func34 #[.string (⟨#[97, 115, 99, 101, 110, 115, 105, 111, 110]⟩ : ByteArray), .int .i64 1, .int .i64 2, .agg #[.int .i64 t585, .int .i64 t586, .int .i64 t587, .int .i64 t588, .int .i64 t589, .int .i64 t590]] ?_
 with_reducible refine (computusref24_feast.calls (⟨#[97, 115, 99, 101, 110, 115, 105, 111, 110]⟩ : ByteArray) 1 2 t585 t586 t587 t588 t589 t590 t591 t592 t593 t594 t595 t596 t597 t598 t599 _ A40.out).mono ?_
 rintro e w171 ⟨rfl, hb⟩
 refine ⟨_, rfl, ?_⟩
 replace HO446 := rw_ HO446 hb
 replace HO584 := rw_ HO584 hb
 replace BK310 := bw_ BK310 hb
 replace BK311 := bw_ BK311 hb
 replace HB := bt_ hb
 (try clear hb)
 (try clear hb2)
 (try clear hk)
 (try clear hi)
 refine hK.out _ _ (by first | exact (cz3_ BK311.out) | exact hHeld) (fun hHeld => ?_)
 clear hK K
 refine norm_ (a' := ?_) ?_ ?_
 rotate_left
 ·show Act.put _ (some 73) _ = _
  simp only [Act.put, sA_, sZ_, sS_, i64_w, i32_w]
  rfl
 refine one_ (i := 4) (N := some 74) (bf_ 12 31) rfl rfl (one_of HT_.out (by kernel_rfl)) (by decide) (fun K hK => ?_)
 refine gs_ Try.func31 #[.int .i64 49] ?_
 with_reducible refine (computusref24_paschal.calls 49 t600 t601 t602 t603 t604 t605 _ A41.out).mono ?_
 rintro e w172 ⟨rfl, hb⟩
 refine ⟨_, rfl, ?_⟩
 replace HO446 := rw_ HO446 hb
 replace HO584 := rw_ HO584 hb
 replace BK310 := bw_ BK310 hb
 replace BK311 := bw_ BK311 hb
 replace HB := bt_ hb
 (try clear hb)
 (try clear hb2)
 (try clear hk)
 (try clear hi)
 refine hK.out _ _ (by first | exact (cz3_ BK311.out) | exact hHeld) (fun hHeld => ?_)
 clear hK K
 refine norm_ (a' := ?_) ?_ ?_
 rotate_left
 ·show Act.put _ (some 74) _ = _
  simp only [Act.put, sA_, sZ_, sS_, i64_w, i32_w]
  rfl
 refine one_ (i := 5) (N := some 75) (bf_ 12 63) rfl rfl (one_of HT_.out (by kernel_rfl)) (by decide) (fun K hK => ?_)
 refine gs_ Try.func34 #[.string (⟨#[112, 101, 110, 116, 101, 99, 111, 115, 116]⟩ : ByteArray), .int .i64 1, .int .i64 2, .agg #[.int .i64 t600, .int .i64 t601, .int .i64 t602, .int .i64 t603, .int .i64 t604, .int .i64 t605]] ?_
 with_reducible refine (computusref24_feast.calls (⟨#[112, 101, 110, 116, 101, 99, 111, 115, 116]⟩ : ByteArray) 1 2 t600 t601 t602 t603 t604 t605 t606 t607 t608 t609 t610 t611 t612 t613 t614 _ A42.out).mono ?_
 rintro e w173 ⟨rfl, hb⟩
 refine ⟨_, rfl, ?_⟩
 replace HO446 := rw_ HO446 hb
 replace HO584 := rw_ HO584 hb
 replace BK310 := bw_ BK310 hb
 replace BK311 := bw_ BK311 hb
 replace HB := bt_ hb
 (try clear hb)
 (try clear hb2)
 (try clear hk)
 (try clear hi)
 refine hK.out _ _ (by first | exact (cz3_ BK311.out) | exact hHeld) (fun hHeld => ?_)
 clear hK K
 refine norm_ (a' := ?_) ?_ ?_
 rotate_left
 ·show Act.put _ (some 75) _ = _
  simp only [Act.put, sA_, sZ_, sS_, i64_w, i32_w]
  rfl
 refine one_ (i := 6) (N := some 76) (bf_ 12 127) rfl rfl (one_of HT_.out (by kernel_rfl)) (by decide) (fun K hK => ?_)
 refine gs_ Try.func31 #[.int .i64 56] ?_
 with_reducible refine (computusref24_paschal.calls 56 t615 t616 t617 t618 t619 t620 _ A43.out).mono ?_
 rintro e w174 ⟨rfl, hb⟩
 refine ⟨_, rfl, ?_⟩
 replace HO446 := rw_ HO446 hb
 replace HO584 := rw_ HO584 hb
 replace BK310 := bw_ BK310 hb
 replace BK311 := bw_ BK311 hb
 replace HB := bt_ hb
 (try clear hb)
 (try clear hb2)
 (try clear hk)
 (try clear hi)
 refine hK.out _ _ (by first | exact (cz3_ BK311.out) | exact hHeld) (fun hHeld => ?_)
 clear hK K
 refine norm_ (a' := ?_) ?_ ?_
 rotate_left
 ·show Act.put _ (some 76) _ = _
  simp only [Act.put, sA_, sZ_, sS_, i64_w, i32_w]
  rfl
 refine one_ (i := 7) (N := some 77) (bf_ 12 255) rfl rfl (one_of HT_.out (by kernel_rfl)) (by decide) (fun K hK => ?_)
 refine gs_ Try.func34 #[.string (⟨#[116, 114, 105, 110, 105, 116, 121]⟩ : ByteArray), .int .i64 1, .int .i64 2, .agg #[.int .i64 t615, .int .i64 t616, .int .i64 t617, .int .i64 t618, .int .i64 t619, .int .i64 t620]] ?_
 with_reducible refine (computusref24_feast.calls (⟨#[116, 114, 105, 110, 105, 116, 121]⟩ : ByteArray) 1 2 t615 t616 t617 t618 t619 t620 t621 t622 t623 t624 t625 t626 t627 t628 t629 _ A44.out).mono ?_
 rintro e w175 ⟨rfl, hb⟩
 refine ⟨_, rfl, ?_⟩
 replace HO446 := rw_ HO446 hb
 replace HO584 := rw_ HO584 hb
 replace BK310 := bw_ BK310 hb
 replace BK311 := bw_ BK311 hb
 replace HB := bt_ hb
 (try clear hb)
 (try clear hb2)
 (try clear hk)
 (try clear hi)
 refine hK.out _ _ (by first | exact (cz3_ BK311.out) | exact hHeld) (fun hHeld => ?_)
 clear hK K
 refine norm_ (a' := ?_) ?_ ?_
 rotate_left
 ·show Act.put _ (some 77) _ = _
  simp only [Act.put, sA_, sZ_, sS_, i64_w, i32_w]
  rfl
 refine one_ (i := 8) (N := some 78) (bf_ 12 511) rfl rfl (one_of HT_.out (by kernel_rfl)) (by decide) (fun K hK => ?_)
 refine Kd.R_lit_step k35 _ 35 ?hg (N := 78) ?hd (xs := ([(⟨t591, t592, t593, (⟨t594, t595, t596, t597, t598, t599⟩ : S31)⟩ : S35), (⟨t606, t607, t608, (⟨t609, t610, t611, t612, t613, t614⟩ : S31)⟩ : S35), (⟨t621, t622, t623, (⟨t624, t625, t626, t627, t628, t629⟩ : S31)⟩ : S35)] : List (S35))) (inner := [.string t591, .int .i64 t592, .int .i64 t593, .int .i64 t594, .int .i64 t595, .int .i64 t596, .int .i64 t597, .int .i64 t598, .int .i64 t599, .string t606, .int .i64 t607, .int .i64 t608, .int .i64 t609, .int .i64 t610, .int .i64 t611, .int .i64 t612, .int .i64 t613, .int .i64 t614, .string t621, .int .i64 t622, .int .i64 t623, .int .i64 t624, .int .i64 t625, .int .i64 t626, .int .i64 t627, .int .i64 t628, .int .i64 t629]) (ok := fun _ => True) (okp := fun _ => True) ?hr ?hp (fun _ hk => hk) trivial (Below.refl _ _) (Nat.le_refl _) (by simp) ?_; (case hd => rfl); (case hg => rfl); (case hr => first | (go_simp; done) | (go_simp; rfl)); (case hp => exact (Reps.c9 (show Kd.M k35 _ _ _ (⟨t591, t592, t593, (⟨t594, t595, t596, t597, t598, t599⟩ : S31)⟩ : S35) [.string t591, .int .i64 t592, .int .i64 t593, .int .i64 t594, .int .i64 t595, .int .i64 t596, .int .i64 t597, .int .i64 t598, .int .i64 t599] from (k35_mkM _ _ _ (⟨t591, t592, t593, (⟨t594, t595, t596, t597, t598, t599⟩ : S31)⟩ : S35) )) (Reps.c9 (show Kd.M k35 _ _ _ (⟨t606, t607, t608, (⟨t609, t610, t611, t612, t613, t614⟩ : S31)⟩ : S35) [.string t606, .int .i64 t607, .int .i64 t608, .int .i64 t609, .int .i64 t610, .int .i64 t611, .int .i64 t612, .int .i64 t613, .int .i64 t614] from (k35_mkM _ _ _ (⟨t606, t607, t608, (⟨t609, t610, t611, t612, t613, t614⟩ : S31)⟩ : S35) )) (Reps.c9 (show Kd.M k35 _ _ _ (⟨t621, t622, t623, (⟨t624, t625, t626, t627, t628, t629⟩ : S31)⟩ : S35) [.string t621, .int .i64 t622, .int .i64 t623, .int .i64 t624, .int .i64 t625, .int .i64 t626, .int .i64 t627, .int .i64 t628, .int .i64 t629] from (k35_mkM _ _ _ (⟨t621, t622, t623, (⟨t624, t625, t626, t627, t628, t629⟩ : S31)⟩ : S35) )) (Reps.none _ _)))))
 intro v631 w176 ho177 hb hg_ hnew_
 clear hg_ hnew_
 (first | rw [← Ny630.out] at ho177 | (simp only [Int.reduceToNat] at ho177; rw [← Ny630.out] at ho177))
 replace HO446 := rw_ HO446 hb
 have HO632 := am_ (Kd.R_lower (Kd.R_new' ho177 (Kd.R_lt (rk_ HO584.out))) bz_)
 replace HO584 := am_ (Kd.R_elder' (rk_ HO584.out) (Kd.R_base ho177) hb)
 replace BK310 := bw_ BK310 hb
 replace BK311 := bw_ BK311 hb
 replace HB := bt_ hb
 clear hb ho177
 obtain ⟨Ao179, co179, eo179⟩ := Kd.R_slice HO632.out
 (first | subst eo179 | (injection eo179 with f1_ f2_ f3_; have f4_ := f1_.symm; have f5_ := f3_.symm; clear f1_ f2_ f3_; subst f4_; subst f5_))
 refine hK.out _ _ (by first | exact (cz3_ BK311.out) | exact hHeld) (fun hHeld => ?_)
 clear hK K
 refine norm_ (a' := ?_) ?_ ?_
 rotate_left
 ·show Act.put _ (some 78) _ = _
  simp only [Act.put, sA_, sZ_, sS_, i64_w, i32_w]
  rfl
 refine one_ (i := 9) (N := some 79) (bf_ 12 1023) rfl rfl (one_of HT_.out (by kernel_rfl)) (by decide) (fun K hK => ?_)
 refine Kd.R_append_rows_step k35 (w0 := w) w.heap.size (by rfl) (.tmp 71) (.tmp 78) 24 35 (.agg #[(.string ⟨#[]⟩), (.int .i64 0), (.int .i64 0), (.int .i64 0), (.int .i64 0), (.int .i64 0), (.int .i64 0), (.int .i64 0), (.int .i64 0)]) 80 rfl Try.underlying24 info35 rfl (by decide) (by omega) (.slice Ao166 y582.length co166) y582 y630 _ _ _ (fun _ => True) (fun _ => False) rfl rfl ?aO ?aR (fun _ _ h => h) (fun _ h => h.elim) ?aF ?aB ?aS ?aL ?_
 (case aR => exact ck_ (Kd.R_reads' HO632.out).2.2)
 (case aB => exact bh_)
 (case aF => exact (fun _ _ => trivial))
 (case aO => exact (by (with_reducible repeat (first | apply Kd.R_alloc | apply Kd.R_drewN | apply Kd.R_drew)); exact Kd.R_mono HO584.out (fun _ hk => trivial)))
 (case aS => exact bz_)
 (case aL => have := LMc45.out; omega)
 intro v634 w178 ho hb hg hat
 rw [← Ny633.out] at ho
 have n0_ := am_ (blk_grown (bk_ BK310.out) hg (Kd.R_ne HO584.out BK310.out (by decide)))
 have n1_ := am_ (blk_grown (bk_ BK311.out) hg (Kd.R_ne HO584.out BK311.out (by decide)))
 have n2_ := am_ (Kd.R_over' (rk_ HO446.out) (Kd.R_typed (rk_ HO584.out)) (by decide) hg)
 have n3_ := am_ (hb)
 have n4_ := am_ (ho)
 clear BK310
 clear BK311
 clear HO446
 clear HB
 clear HO584
 clear HO632
 have BK310 := n0_
 have BK311 := n1_
 have HO446 := n2_
 have HB := n3_
 have HO635 := n4_
 clear n0_ n1_ n2_ n3_ n4_
 clear ho hb hg hat
 obtain ⟨Ao180, co180, eo180⟩ := Kd.R_slice HO635.out
 (first | subst eo180 | (injection eo180 with f1_ f2_ f3_; have f4_ := f1_.symm; have f5_ := f3_.symm; clear f1_ f2_ f3_; subst f4_; subst f5_))
 refine hK.out _ _ (by first | exact (cz3_ BK311.out) | exact hHeld) (fun hHeld => ?_)
 clear hK K
 refine norm_ (a' := ?_) ?_ ?_
 rotate_left
 ·show Act.put _ (some 79) _ = _
  simp only [Act.put, sA_, sZ_, sS_, i64_w, i32_w]
  rfl
 refine pu_ 10 (some 80) (bf_ 12 2047) HT_.out ?_
 refine last_ (i := 11) (N := none) (bf_ 12 4095) rfl rfl (one_of HT_.out (by kernel_rfl)) (by decide) (fun K hK => ?_)
 have hs181 : w178.cell? ⟨gb311, 2, none⟩ = some (.slice Ao166 y582.length co166) := (blk_cell BK311.out 2).trans rfl
 have hfs181 := blk_frozen BK311.out 2
 have hns181_0 := NB310_311.out
 have hms181_0 := NB311_310.out
 refine skip_ (w1 := ?_) (by rfl) rfl ?_ ?_
 rotate_left
 ·go_simp
  rfl
 refine hK.out _ _ ?_
 clear hK K
 refine done_ (done_of HT_.out (by kernel_rfl)) ?_
 try go_wp2
 have n0_ : Aside0 (Kd.R k33 33 (w178.setCell ⟨gb311, 2, none⟩ (.slice Ao180 y633.length co180)) w.heap.size (fun _ => True) (.slice Ao126 y444.length co126) y444) := ⟨fa_ HO446 BK311⟩
 have n1_ : Aside0 (Kd.R k35 35 (w178.setCell ⟨gb311, 2, none⟩ (.slice Ao180 y633.length co180)) w.heap.size (fun _ => True) (.slice Ao180 y633.length co180) y633) := ⟨fa_ HO635 BK311⟩
 have n2_ : Aside0 ((w178.setCell ⟨gb311, 2, none⟩ (.slice Ao180 y633.length co180)).heap[gb310]? = some (.cells #[.int .i64 0, .slice none 0 0, .slice none 0 0] 26 (0, 0))) := ⟨bf1_ NB310_311 BK310⟩
 have n3_ : Aside0 ((w178.setCell ⟨gb311, 2, none⟩ (.slice Ao180 y633.length co180)).heap[gb311]? = some (.cells #[.int .i64 5, .slice Ao126 y444.length co126, .slice Ao180 y633.length co180] 26 (0, 0))) := ⟨by refine bp_ ?_; refine blk_put (cs := #[.int .i64 5, .slice Ao126 y444.length co126, .slice Ao166 y582.length co166]) ?_ 2 _ rfl; exact bk_ BK311.out⟩
 have n4_ : Aside0 (Below w.heap.size w (w178.setCell ⟨gb311, 2, none⟩ (.slice Ao180 y633.length co180))) := ⟨bh_⟩
 (try clear HO446)
 (try clear HO635)
 (try clear BK310)
 (try clear BK311)
 (try clear HB)
 generalize (w178.setCell ⟨gb311, 2, none⟩ (.slice Ao180 y633.length co180)) = w182 at n0_ n1_ n2_ n3_ n4_ ⊢
 have HO446 := n0_
 have HO635 := n1_
 have BK310 := n2_
 have BK311 := n3_
 have HB := n4_
 clear n0_ n1_ n2_ n3_ n4_
 replace HO446 := am_ (Kd.R_drew HO446.out)
 replace HO635 := am_ (Kd.R_drew HO635.out)
 replace BK310 := am_ (blk_drew BK310.out)
 replace BK311 := am_ (blk_drew BK311.out)
 replace HB := am_ (below_drew1 HB.out)
 refine start_ (n := 10) (S := fun w' => w'.cell? ⟨gb311, 0, none⟩ = some (.int .i64 5) ∧ w'.cell? ⟨gb311, 1, none⟩ = some (.slice Ao126 y444.length co126) ∧ w'.cell? ⟨gb311, 2, none⟩ = some (.slice Ao180 y633.length co180)) (ds := [9]) (bf_ 10 0) (by kernel_rfl) rfl rfl (cz3_ BK311.out) (fun hHeld => ?_); refine with_tabW computusref24_Catalogue.tab10 computusref24_Catalogue.bits10 (fun HT_ HW_ => ?_)
 generalize w182.drew = w183 at HO446 HO635 BK310 BK311 HB hHeld ⊢
 refine pu_ 0 (some 81) (bf_ 10 1) HT_.out ?_
 refine ta_ 1 (some 82) (bf_ 10 3) HT_.out HW_.out hHeld ?_
 refine one_ (i := 2) (N := some 83) (bf_ 10 7) rfl rfl (one_of HT_.out (by kernel_rfl)) (by decide) (fun K hK => ?_)
 refine gs_ Try.func31 #[.int .i64 60] ?_
 with_reducible refine (computusref24_paschal.calls 60 t636 t637 t638 t639 t640 t641 _ A46.out).mono ?_
 rintro e w184 ⟨rfl, hb⟩
 refine ⟨_, rfl, ?_⟩
 replace HO446 := rw_ HO446 hb
 replace HO635 := rw_ HO635 hb
 replace BK310 := bw_ BK310 hb
 replace BK311 := bw_ BK311 hb
 replace HB := bt_ hb
 (try clear hb)
 (try clear hb2)
 (try clear hk)
 (try clear hi)
 refine hK.out _ _ (by first | exact (cz3_ BK311.out) | exact hHeld) (fun hHeld => ?_)
 clear hK K
 refine norm_ (a' := ?_) ?_ ?_
 rotate_left
 ·show Act.put _ (some 83) _ = _
  simp only [Act.put, sA_, sZ_, sS_, i64_w, i32_w]
  rfl
 refine one_ (i := 3) (N := some 84) (bf_ 10 15) rfl rfl (one_of HT_.out (by kernel_rfl)) (by decide) (fun K hK => ?_)
 refine gs_ Try.func34 #[.string (⟨#[99, 111, 114, 112, 117, 115, 45, 99, 104, 114, 105, 115, 116, 105]⟩ : ByteArray), .int .i64 1, .int .i64 2, .agg #[.int .i64 t636, .int .i64 t637, .int .i64 t638, .int .i64 t639, .int .i64 t640, .int .i64 t641]] ?_
 with_reducible refine (computusref24_feast.calls (⟨#[99, 111, 114, 112, 117, 115, 45, 99, 104, 114, 105, 115, 116, 105]⟩ : ByteArray) 1 2 t636 t637 t638 t639 t640 t641 t642 t643 t644 t645 t646 t647 t648 t649 t650 _ A47.out).mono ?_
 rintro e w185 ⟨rfl, hb⟩
 refine ⟨_, rfl, ?_⟩
 replace HO446 := rw_ HO446 hb
 replace HO635 := rw_ HO635 hb
 replace BK310 := bw_ BK310 hb
 replace BK311 := bw_ BK311 hb
 replace HB := bt_ hb
 (try clear hb)
 (try clear hb2)
 (try clear hk)
 (try clear hi)
 refine hK.out _ _ (by first | exact (cz3_ BK311.out) | exact hHeld) (fun hHeld => ?_)
 clear hK K
 refine norm_ (a' := ?_) ?_ ?_
 rotate_left
 ·show Act.put _ (some 84) _ = _
  simp only [Act.put, sA_, sZ_, sS_, i64_w, i32_w]
  rfl
 refine one_ (i := 4) (N := some 85) (bf_ 10 31) rfl rfl (one_of HT_.out (by kernel_rfl)) (by decide) (fun K hK => ?_)
 refine gs_ Try.func31 #[.int .i64 68] ?_
 with_reducible refine (computusref24_paschal.calls 68 t651 t652 t653 t654 t655 t656 _ A48.out).mono ?_
 rintro e w186 ⟨rfl, hb⟩
 refine ⟨_, rfl, ?_⟩
 replace HO446 := rw_ HO446 hb
 replace HO635 := rw_ HO635 hb
 replace BK310 := bw_ BK310 hb
 replace BK311 := bw_ BK311 hb
 replace HB := bt_ hb
 (try clear hb)
 (try clear hb2)
 (try clear hk)
 (try clear hi)
 refine hK.out _ _ (by first | exact (cz3_ BK311.out) | exact hHeld) (fun hHeld => ?_)
 clear hK K
 refine norm_ (a' := ?_) ?_ ?_
 rotate_left
 ·show Act.put _ (some 85) _ = _
  simp only [Act.put, sA_, sZ_, sS_, i64_w, i32_w]
  rfl
 refine one_ (i := 5) (N := some 86) (bf_ 10 63) rfl rfl (one_of HT_.out (by kernel_rfl)) (by decide) (fun K hK => ?_)
 refine gs_ Try.func34 #[.string (⟨#[115, 97, 99, 114, 101, 100, 45, 104, 101, 97, 114, 116]⟩ : ByteArray), .int .i64 1, .int .i64 2, .agg #[.int .i64 t651, .int .i64 t652, .int .i64 t653, .int .i64 t654, .int .i64 t655, .int .i64 t656]] ?_
 with_reducible refine (computusref24_feast.calls (⟨#[115, 97, 99, 114, 101, 100, 45, 104, 101, 97, 114, 116]⟩ : ByteArray) 1 2 t651 t652 t653 t654 t655 t656 t657 t658 t659 t660 t661 t662 t663 t664 t665 _ A49.out).mono ?_
 rintro e w187 ⟨rfl, hb⟩
 refine ⟨_, rfl, ?_⟩
 replace HO446 := rw_ HO446 hb
 replace HO635 := rw_ HO635 hb
 replace BK310 := bw_ BK310 hb
 replace BK311 := bw_ BK311 hb
 replace HB := bt_ hb
 (try clear hb)
 (try clear hb2)
 (try clear hk)
 (try clear hi)
 refine hK.out _ _ (by first | exact (cz3_ BK311.out) | exact hHeld) (fun hHeld => ?_)
 clear hK K
 refine norm_ (a' := ?_) ?_ ?_
 rotate_left
 ·show Act.put _ (some 86) _ = _
  simp only [Act.put, sA_, sZ_, sS_, i64_w, i32_w]
  rfl
 refine one_ (i := 6) (N := some 87) (bf_ 10 127) rfl rfl (one_of HT_.out (by kernel_rfl)) (by decide) (fun K hK => ?_)
 refine Kd.R_lit_step k35 _ 35 ?hg (N := 87) ?hd (xs := ([(⟨t642, t643, t644, (⟨t645, t646, t647, t648, t649, t650⟩ : S31)⟩ : S35), (⟨t657, t658, t659, (⟨t660, t661, t662, t663, t664, t665⟩ : S31)⟩ : S35)] : List (S35))) (inner := [.string t642, .int .i64 t643, .int .i64 t644, .int .i64 t645, .int .i64 t646, .int .i64 t647, .int .i64 t648, .int .i64 t649, .int .i64 t650, .string t657, .int .i64 t658, .int .i64 t659, .int .i64 t660, .int .i64 t661, .int .i64 t662, .int .i64 t663, .int .i64 t664, .int .i64 t665]) (ok := fun _ => True) (okp := fun _ => True) ?hr ?hp (fun _ hk => hk) trivial (Below.refl _ _) (Nat.le_refl _) (by simp) ?_; (case hd => rfl); (case hg => rfl); (case hr => first | (go_simp; done) | (go_simp; rfl)); (case hp => exact (Reps.c9 (show Kd.M k35 _ _ _ (⟨t642, t643, t644, (⟨t645, t646, t647, t648, t649, t650⟩ : S31)⟩ : S35) [.string t642, .int .i64 t643, .int .i64 t644, .int .i64 t645, .int .i64 t646, .int .i64 t647, .int .i64 t648, .int .i64 t649, .int .i64 t650] from (k35_mkM _ _ _ (⟨t642, t643, t644, (⟨t645, t646, t647, t648, t649, t650⟩ : S31)⟩ : S35) )) (Reps.c9 (show Kd.M k35 _ _ _ (⟨t657, t658, t659, (⟨t660, t661, t662, t663, t664, t665⟩ : S31)⟩ : S35) [.string t657, .int .i64 t658, .int .i64 t659, .int .i64 t660, .int .i64 t661, .int .i64 t662, .int .i64 t663, .int .i64 t664, .int .i64 t665] from (k35_mkM _ _ _ (⟨t657, t658, t659, (⟨t660, t661, t662, t663, t664, t665⟩ : S31)⟩ : S35) )) (Reps.none _ _))))
 intro v667 w188 ho189 hb hg_ hnew_
 clear hg_ hnew_
 (first | rw [← Ny666.out] at ho189 | (simp only [Int.reduceToNat] at ho189; rw [← Ny666.out] at ho189))
 replace HO446 := rw_ HO446 hb
 have HO668 := am_ (Kd.R_lower (Kd.R_new' ho189 (Kd.R_lt (rk_ HO635.out))) bz_)
 replace HO635 := am_ (Kd.R_elder' (rk_ HO635.out) (Kd.R_base ho189) hb)
 replace BK310 := bw_ BK310 hb
 replace BK311 := bw_ BK311 hb
 replace HB := bt_ hb
 clear hb ho189
 obtain ⟨Ao191, co191, eo191⟩ := Kd.R_slice HO668.out
 (first | subst eo191 | (injection eo191 with f1_ f2_ f3_; have f4_ := f1_.symm; have f5_ := f3_.symm; clear f1_ f2_ f3_; subst f4_; subst f5_))
 refine hK.out _ _ (by first | exact (cz3_ BK311.out) | exact hHeld) (fun hHeld => ?_)
 clear hK K
 refine norm_ (a' := ?_) ?_ ?_
 rotate_left
 ·show Act.put _ (some 87) _ = _
  simp only [Act.put, sA_, sZ_, sS_, i64_w, i32_w]
  rfl
 refine one_ (i := 7) (N := some 88) (bf_ 10 255) rfl rfl (one_of HT_.out (by kernel_rfl)) (by decide) (fun K hK => ?_)
 refine Kd.R_append_rows_step k35 (w0 := w) w.heap.size (by rfl) (.tmp 82) (.tmp 87) 24 35 (.agg #[(.string ⟨#[]⟩), (.int .i64 0), (.int .i64 0), (.int .i64 0), (.int .i64 0), (.int .i64 0), (.int .i64 0), (.int .i64 0), (.int .i64 0)]) 80 rfl Try.underlying24 info35 rfl (by decide) (by omega) (.slice Ao180 y633.length co180) y633 y666 _ _ _ (fun _ => True) (fun _ => False) rfl rfl ?aO ?aR (fun _ _ h => h) (fun _ h => h.elim) ?aF ?aB ?aS ?aL ?_
 (case aR => exact ck_ (Kd.R_reads' HO668.out).2.2)
 (case aB => exact bh_)
 (case aF => exact (fun _ _ => trivial))
 (case aO => exact (by (with_reducible repeat (first | apply Kd.R_alloc | apply Kd.R_drewN | apply Kd.R_drew)); exact Kd.R_mono HO635.out (fun _ hk => trivial)))
 (case aS => exact bz_)
 (case aL => have := LMc50.out; omega)
 intro v670 w190 ho hb hg hat
 rw [← Ny669.out] at ho
 have n0_ := am_ (blk_grown (bk_ BK310.out) hg (Kd.R_ne HO635.out BK310.out (by decide)))
 have n1_ := am_ (blk_grown (bk_ BK311.out) hg (Kd.R_ne HO635.out BK311.out (by decide)))
 have n2_ := am_ (Kd.R_over' (rk_ HO446.out) (Kd.R_typed (rk_ HO635.out)) (by decide) hg)
 have n3_ := am_ (hb)
 have n4_ := am_ (ho)
 clear BK310
 clear BK311
 clear HO446
 clear HB
 clear HO635
 clear HO668
 have BK310 := n0_
 have BK311 := n1_
 have HO446 := n2_
 have HB := n3_
 have HO671 := n4_
 clear n0_ n1_ n2_ n3_ n4_
 clear ho hb hg hat
 obtain ⟨Ao192, co192, eo192⟩ := Kd.R_slice HO671.out
 (first | subst eo192 | (injection eo192 with f1_ f2_ f3_; have f4_ := f1_.symm; have f5_ := f3_.symm; clear f1_ f2_ f3_; subst f4_; subst f5_))
 refine hK.out _ _ (by first | exact (cz3_ BK311.out) | exact hHeld) (fun hHeld => ?_)
 clear hK K
 refine norm_ (a' := ?_) ?_ ?_
 rotate_left
 ·show Act.put _ (some 88) _ = _
  simp only [Act.put, sA_, sZ_, sS_, i64_w, i32_w]
  rfl
 refine pu_ 8 (some 89) (bf_ 10 511) HT_.out ?_
 refine last_ (i := 9) (N := none) (bf_ 10 1023) rfl rfl (one_of HT_.out (by kernel_rfl)) (by decide) (fun K hK => ?_)
 have hs193 : w190.cell? ⟨gb311, 2, none⟩ = some (.slice Ao180 y633.length co180) := (blk_cell BK311.out 2).trans rfl
 have hfs193 := blk_frozen BK311.out 2
 have hns193_0 := NB310_311.out
 have hms193_0 := NB311_310.out
 refine skip_ (w1 := ?_) (by rfl) rfl ?_ ?_
 rotate_left
 ·go_simp
  rfl
 refine hK.out _ _ ?_
 clear hK K
 refine done_ (done_of HT_.out (by kernel_rfl)) ?_
 try go_wp2
 have n0_ : Aside0 (Kd.R k33 33 (w190.setCell ⟨gb311, 2, none⟩ (.slice Ao192 y669.length co192)) w.heap.size (fun _ => True) (.slice Ao126 y444.length co126) y444) := ⟨fa_ HO446 BK311⟩
 have n1_ : Aside0 (Kd.R k35 35 (w190.setCell ⟨gb311, 2, none⟩ (.slice Ao192 y669.length co192)) w.heap.size (fun _ => True) (.slice Ao192 y669.length co192) y669) := ⟨fa_ HO671 BK311⟩
 have n2_ : Aside0 ((w190.setCell ⟨gb311, 2, none⟩ (.slice Ao192 y669.length co192)).heap[gb310]? = some (.cells #[.int .i64 0, .slice none 0 0, .slice none 0 0] 26 (0, 0))) := ⟨bf1_ NB310_311 BK310⟩
 have n3_ : Aside0 ((w190.setCell ⟨gb311, 2, none⟩ (.slice Ao192 y669.length co192)).heap[gb311]? = some (.cells #[.int .i64 5, .slice Ao126 y444.length co126, .slice Ao192 y669.length co192] 26 (0, 0))) := ⟨by refine bp_ ?_; refine blk_put (cs := #[.int .i64 5, .slice Ao126 y444.length co126, .slice Ao180 y633.length co180]) ?_ 2 _ rfl; exact bk_ BK311.out⟩
 have n4_ : Aside0 (Below w.heap.size w (w190.setCell ⟨gb311, 2, none⟩ (.slice Ao192 y669.length co192))) := ⟨bh_⟩
 (try clear HO446)
 (try clear HO671)
 (try clear BK310)
 (try clear BK311)
 (try clear HB)
 generalize (w190.setCell ⟨gb311, 2, none⟩ (.slice Ao192 y669.length co192)) = w194 at n0_ n1_ n2_ n3_ n4_ ⊢
 have HO446 := n0_
 have HO671 := n1_
 have BK310 := n2_
 have BK311 := n3_
 have HB := n4_
 clear n0_ n1_ n2_ n3_ n4_
 replace HO446 := am_ (Kd.R_drew HO446.out)
 replace HO671 := am_ (Kd.R_drew HO671.out)
 replace BK310 := am_ (blk_drew BK310.out)
 replace BK311 := am_ (blk_drew BK311.out)
 replace HB := am_ (below_drew1 HB.out)
 refine start_ (n := 10) (S := fun w' => w'.cell? ⟨gb311, 0, none⟩ = some (.int .i64 5) ∧ w'.cell? ⟨gb311, 1, none⟩ = some (.slice Ao126 y444.length co126) ∧ w'.cell? ⟨gb311, 2, none⟩ = some (.slice Ao192 y669.length co192)) (ds := [9]) (bf_ 10 0) (by kernel_rfl) rfl rfl (cz3_ BK311.out) (fun hHeld => ?_); refine with_tabW computusref24_Catalogue.tab11 computusref24_Catalogue.bits11 (fun HT_ HW_ => ?_)
 generalize w194.drew = w195 at HO446 HO671 BK310 BK311 HB hHeld ⊢
 refine pu_ 0 (some 90) (bf_ 10 1) HT_.out ?_
 refine ta_ 1 (some 91) (bf_ 10 3) HT_.out HW_.out hHeld ?_
 refine one_ (i := 2) (N := some 92) (bf_ 10 7) rfl rfl (one_of HT_.out (by kernel_rfl)) (by decide) (fun K hK => ?_)
 refine gs_ Try.func33 #[.int .i64 6, .int .i64 24] ?_
 with_reducible refine (computusref24_fixed.calls 6 24 t672 t673 t674 t675 t676 t677 _ A51.out).mono ?_
 rintro e w196 ⟨rfl, hb⟩
 refine ⟨_, rfl, ?_⟩
 replace HO446 := rw_ HO446 hb
 replace HO671 := rw_ HO671 hb
 replace BK310 := bw_ BK310 hb
 replace BK311 := bw_ BK311 hb
 replace HB := bt_ hb
 (try clear hb)
 (try clear hb2)
 (try clear hk)
 (try clear hi)
 refine hK.out _ _ (by first | exact (cz3_ BK311.out) | exact hHeld) (fun hHeld => ?_)
 clear hK K
 refine norm_ (a' := ?_) ?_ ?_
 rotate_left
 ·show Act.put _ (some 92) _ = _
  simp only [Act.put, sA_, sZ_, sS_, i64_w, i32_w]
  rfl
 refine one_ (i := 3) (N := some 93) (bf_ 10 15) rfl rfl (one_of HT_.out (by kernel_rfl)) (by decide) (fun K hK => ?_)
 refine gs_ Try.func34 #[.string (⟨#[106, 111, 104, 110, 45, 98, 97, 112, 116, 105, 115, 116]⟩ : ByteArray), .int .i64 1, .int .i64 1, .agg #[.int .i64 t672, .int .i64 t673, .int .i64 t674, .int .i64 t675, .int .i64 t676, .int .i64 t677]] ?_
 with_reducible refine (computusref24_feast.calls (⟨#[106, 111, 104, 110, 45, 98, 97, 112, 116, 105, 115, 116]⟩ : ByteArray) 1 1 t672 t673 t674 t675 t676 t677 t678 t679 t680 t681 t682 t683 t684 t685 t686 _ A52.out).mono ?_
 rintro e w197 ⟨rfl, hb⟩
 refine ⟨_, rfl, ?_⟩
 replace HO446 := rw_ HO446 hb
 replace HO671 := rw_ HO671 hb
 replace BK310 := bw_ BK310 hb
 replace BK311 := bw_ BK311 hb
 replace HB := bt_ hb
 (try clear hb)
 (try clear hb2)
 (try clear hk)
 (try clear hi)
 refine hK.out _ _ (by first | exact (cz3_ BK311.out) | exact hHeld) (fun hHeld => ?_)
 clear hK K
 refine norm_ (a' := ?_) ?_ ?_
 rotate_left
 ·show Act.put _ (some 93) _ = _
  simp only [Act.put, sA_, sZ_, sS_, i64_w, i32_w]
  rfl
 refine one_ (i := 4) (N := some 94) (bf_ 10 31) rfl rfl (one_of HT_.out (by kernel_rfl)) (by decide) (fun K hK => ?_)
 refine gs_ Try.func33 #[.int .i64 6, .int .i64 29] ?_
 with_reducible refine (computusref24_fixed.calls 6 29 t687 t688 t689 t690 t691 t692 _ A53.out).mono ?_
 rintro e w198 ⟨rfl, hb⟩
 refine ⟨_, rfl, ?_⟩
 replace HO446 := rw_ HO446 hb
 replace HO671 := rw_ HO671 hb
 replace BK310 := bw_ BK310 hb
 replace BK311 := bw_ BK311 hb
 replace HB := bt_ hb
 (try clear hb)
 (try clear hb2)
 (try clear hk)
 (try clear hi)
 refine hK.out _ _ (by first | exact (cz3_ BK311.out) | exact hHeld) (fun hHeld => ?_)
 clear hK K
 refine norm_ (a' := ?_) ?_ ?_
 rotate_left
 ·show Act.put _ (some 94) _ = _
  simp only [Act.put, sA_, sZ_, sS_, i64_w, i32_w]
  rfl
 refine one_ (i := 5) (N := some 95) (bf_ 10 63) rfl rfl (one_of HT_.out (by kernel_rfl)) (by decide) (fun K hK => ?_)
 refine gs_ Try.func34 #[.string (⟨#[112, 101, 116, 101, 114, 45, 97, 110, 100, 45, 112, 97, 117, 108]⟩ : ByteArray), .int .i64 1, .int .i64 1, .agg #[.int .i64 t687, .int .i64 t688, .int .i64 t689, .int .i64 t690, .int .i64 t691, .int .i64 t692]] ?_
 with_reducible refine (computusref24_feast.calls (⟨#[112, 101, 116, 101, 114, 45, 97, 110, 100, 45, 112, 97, 117, 108]⟩ : ByteArray) 1 1 t687 t688 t689 t690 t691 t692 t693 t694 t695 t696 t697 t698 t699 t700 t701 _ A54.out).mono ?_
 rintro e w199 ⟨rfl, hb⟩
 refine ⟨_, rfl, ?_⟩
 replace HO446 := rw_ HO446 hb
 replace HO671 := rw_ HO671 hb
 replace BK310 := bw_ BK310 hb
 replace BK311 := bw_ BK311 hb
 replace HB := bt_ hb
 (try clear hb)
 (try clear hb2)
 (try clear hk)
 (try clear hi)
 refine hK.out _ _ (by first | exact (cz3_ BK311.out) | exact hHeld) (fun hHeld => ?_)
 clear hK K
 refine norm_ (a' := ?_) ?_ ?_
 rotate_left
 ·show Act.put _ (some 95) _ = _
  simp only [Act.put, sA_, sZ_, sS_, i64_w, i32_w]
  rfl
 refine one_ (i := 6) (N := some 96) (bf_ 10 127) rfl rfl (one_of HT_.out (by kernel_rfl)) (by decide) (fun K hK => ?_)
 refine Kd.R_lit_step k35 _ 35 ?hg (N := 96) ?hd (xs := ([(⟨t678, t679, t680, (⟨t681, t682, t683, t684, t685, t686⟩ : S31)⟩ : S35), (⟨t693, t694, t695, (⟨t696, t697, t698, t699, t700, t701⟩ : S31)⟩ : S35)] : List (S35))) (inner := [.string t678, .int .i64 t679, .int .i64 t680, .int .i64 t681, .int .i64 t682, .int .i64 t683, .int .i64 t684, .int .i64 t685, .int .i64 t686, .string t693, .int .i64 t694, .int .i64 t695, .int .i64 t696, .int .i64 t697, .int .i64 t698, .int .i64 t699, .int .i64 t700, .int .i64 t701]) (ok := fun _ => True) (okp := fun _ => True) ?hr ?hp (fun _ hk => hk) trivial (Below.refl _ _) (Nat.le_refl _) (by simp) ?_; (case hd => rfl); (case hg => rfl); (case hr => first | (go_simp; done) | (go_simp; rfl)); (case hp => exact (Reps.c9 (show Kd.M k35 _ _ _ (⟨t678, t679, t680, (⟨t681, t682, t683, t684, t685, t686⟩ : S31)⟩ : S35) [.string t678, .int .i64 t679, .int .i64 t680, .int .i64 t681, .int .i64 t682, .int .i64 t683, .int .i64 t684, .int .i64 t685, .int .i64 t686] from (k35_mkM _ _ _ (⟨t678, t679, t680, (⟨t681, t682, t683, t684, t685, t686⟩ : S31)⟩ : S35) )) (Reps.c9 (show Kd.M k35 _ _ _ (⟨t693, t694, t695, (⟨t696, t697, t698, t699, t700, t701⟩ : S31)⟩ : S35) [.string t693, .int .i64 t694, .int .i64 t695, .int .i64 t696, .int .i64 t697, .int .i64 t698, .int .i64 t699, .int .i64 t700, .int .i64 t701] from (k35_mkM _ _ _ (⟨t693, t694, t695, (⟨t696, t697, t698, t699, t700, t701⟩ : S31)⟩ : S35) )) (Reps.none _ _))))
 intro v703 w200 ho201 hb hg_ hnew_
 clear hg_ hnew_
 (first | rw [← Ny702.out] at ho201 | (simp only [Int.reduceToNat] at ho201; rw [← Ny702.out] at ho201))
 replace HO446 := rw_ HO446 hb
 have HO704 := am_ (Kd.R_lower (Kd.R_new' ho201 (Kd.R_lt (rk_ HO671.out))) bz_)
 replace HO671 := am_ (Kd.R_elder' (rk_ HO671.out) (Kd.R_base ho201) hb)
 replace BK310 := bw_ BK310 hb
 replace BK311 := bw_ BK311 hb
 replace HB := bt_ hb
 clear hb ho201
 obtain ⟨Ao203, co203, eo203⟩ := Kd.R_slice HO704.out
 (first | subst eo203 | (injection eo203 with f1_ f2_ f3_; have f4_ := f1_.symm; have f5_ := f3_.symm; clear f1_ f2_ f3_; subst f4_; subst f5_))
 refine hK.out _ _ (by first | exact (cz3_ BK311.out) | exact hHeld) (fun hHeld => ?_)
 clear hK K
 refine norm_ (a' := ?_) ?_ ?_
 rotate_left
 ·show Act.put _ (some 96) _ = _
  simp only [Act.put, sA_, sZ_, sS_, i64_w, i32_w]
  rfl
 refine one_ (i := 7) (N := some 97) (bf_ 10 255) rfl rfl (one_of HT_.out (by kernel_rfl)) (by decide) (fun K hK => ?_)
 refine Kd.R_append_rows_step k35 (w0 := w) w.heap.size (by rfl) (.tmp 91) (.tmp 96) 24 35 (.agg #[(.string ⟨#[]⟩), (.int .i64 0), (.int .i64 0), (.int .i64 0), (.int .i64 0), (.int .i64 0), (.int .i64 0), (.int .i64 0), (.int .i64 0)]) 80 rfl Try.underlying24 info35 rfl (by decide) (by omega) (.slice Ao192 y669.length co192) y669 y702 _ _ _ (fun _ => True) (fun _ => False) rfl rfl ?aO ?aR (fun _ _ h => h) (fun _ h => h.elim) ?aF ?aB ?aS ?aL ?_
 (case aR => exact ck_ (Kd.R_reads' HO704.out).2.2)
 (case aB => exact bh_)
 (case aF => exact (fun _ _ => trivial))
 (case aO => exact (by (with_reducible repeat (first | apply Kd.R_alloc | apply Kd.R_drewN | apply Kd.R_drew)); exact Kd.R_mono HO671.out (fun _ hk => trivial)))
 (case aS => exact bz_)
 (case aL => have := LMc55.out; omega)
 intro v706 w202 ho hb hg hat
 rw [← Ny705.out] at ho
 have n0_ := am_ (blk_grown (bk_ BK310.out) hg (Kd.R_ne HO671.out BK310.out (by decide)))
 have n1_ := am_ (blk_grown (bk_ BK311.out) hg (Kd.R_ne HO671.out BK311.out (by decide)))
 have n2_ := am_ (Kd.R_over' (rk_ HO446.out) (Kd.R_typed (rk_ HO671.out)) (by decide) hg)
 have n3_ := am_ (hb)
 have n4_ := am_ (ho)
 clear BK310
 clear BK311
 clear HO446
 clear HB
 clear HO671
 clear HO704
 have BK310 := n0_
 have BK311 := n1_
 have HO446 := n2_
 have HB := n3_
 have HO707 := n4_
 clear n0_ n1_ n2_ n3_ n4_
 clear ho hb hg hat
 obtain ⟨Ao204, co204, eo204⟩ := Kd.R_slice HO707.out
 (first | subst eo204 | (injection eo204 with f1_ f2_ f3_; have f4_ := f1_.symm; have f5_ := f3_.symm; clear f1_ f2_ f3_; subst f4_; subst f5_))
 refine hK.out _ _ (by first | exact (cz3_ BK311.out) | exact hHeld) (fun hHeld => ?_)
 clear hK K
 refine norm_ (a' := ?_) ?_ ?_
 rotate_left
 ·show Act.put _ (some 97) _ = _
  simp only [Act.put, sA_, sZ_, sS_, i64_w, i32_w]
  rfl
 refine pu_ 8 (some 98) (bf_ 10 511) HT_.out ?_
 refine last_ (i := 9) (N := none) (bf_ 10 1023) rfl rfl (one_of HT_.out (by kernel_rfl)) (by decide) (fun K hK => ?_)
 have hs205 : w202.cell? ⟨gb311, 2, none⟩ = some (.slice Ao192 y669.length co192) := (blk_cell BK311.out 2).trans rfl
 have hfs205 := blk_frozen BK311.out 2
 have hns205_0 := NB310_311.out
 have hms205_0 := NB311_310.out
 refine skip_ (w1 := ?_) (by rfl) rfl ?_ ?_
 rotate_left
 ·go_simp
  rfl
 refine hK.out _ _ ?_
 clear hK K
 refine done_ (done_of HT_.out (by kernel_rfl)) ?_
 try go_wp2
 have n0_ : Aside0 (Kd.R k33 33 (w202.setCell ⟨gb311, 2, none⟩ (.slice Ao204 y705.length co204)) w.heap.size (fun _ => True) (.slice Ao126 y444.length co126) y444) := ⟨fa_ HO446 BK311⟩
 have n1_ : Aside0 (Kd.R k35 35 (w202.setCell ⟨gb311, 2, none⟩ (.slice Ao204 y705.length co204)) w.heap.size (fun _ => True) (.slice Ao204 y705.length co204) y705) := ⟨fa_ HO707 BK311⟩
 have n2_ : Aside0 ((w202.setCell ⟨gb311, 2, none⟩ (.slice Ao204 y705.length co204)).heap[gb310]? = some (.cells #[.int .i64 0, .slice none 0 0, .slice none 0 0] 26 (0, 0))) := ⟨bf1_ NB310_311 BK310⟩
 have n3_ : Aside0 ((w202.setCell ⟨gb311, 2, none⟩ (.slice Ao204 y705.length co204)).heap[gb311]? = some (.cells #[.int .i64 5, .slice Ao126 y444.length co126, .slice Ao204 y705.length co204] 26 (0, 0))) := ⟨by refine bp_ ?_; refine blk_put (cs := #[.int .i64 5, .slice Ao126 y444.length co126, .slice Ao192 y669.length co192]) ?_ 2 _ rfl; exact bk_ BK311.out⟩
 have n4_ : Aside0 (Below w.heap.size w (w202.setCell ⟨gb311, 2, none⟩ (.slice Ao204 y705.length co204))) := ⟨bh_⟩
 (try clear HO446)
 (try clear HO707)
 (try clear BK310)
 (try clear BK311)
 (try clear HB)
 generalize (w202.setCell ⟨gb311, 2, none⟩ (.slice Ao204 y705.length co204)) = w206 at n0_ n1_ n2_ n3_ n4_ ⊢
 have HO446 := n0_
 have HO707 := n1_
 have BK310 := n2_
 have BK311 := n3_
 have HB := n4_
 clear n0_ n1_ n2_ n3_ n4_
 replace HO446 := am_ (Kd.R_drew HO446.out)
 replace HO707 := am_ (Kd.R_drew HO707.out)
 replace BK310 := am_ (blk_drew BK310.out)
 replace BK311 := am_ (blk_drew BK311.out)
 replace HB := am_ (below_drew1 HB.out)
 refine start_ (n := 12) (S := fun w' => w'.cell? ⟨gb311, 0, none⟩ = some (.int .i64 5) ∧ w'.cell? ⟨gb311, 1, none⟩ = some (.slice Ao126 y444.length co126) ∧ w'.cell? ⟨gb311, 2, none⟩ = some (.slice Ao204 y705.length co204)) (ds := [11]) (bf_ 12 0) (by kernel_rfl) rfl rfl (cz3_ BK311.out) (fun hHeld => ?_); refine with_tabW computusref24_Catalogue.tab12 computusref24_Catalogue.bits12 (fun HT_ HW_ => ?_)
 generalize w206.drew = w207 at HO446 HO707 BK310 BK311 HB hHeld ⊢
 refine pu_ 0 (some 99) (bf_ 12 1) HT_.out ?_
 refine ta_ 1 (some 100) (bf_ 12 3) HT_.out HW_.out hHeld ?_
 refine one_ (i := 2) (N := some 101) (bf_ 12 7) rfl rfl (one_of HT_.out (by kernel_rfl)) (by decide) (fun K hK => ?_)
 refine gs_ Try.func33 #[.int .i64 8, .int .i64 6] ?_
 with_reducible refine (computusref24_fixed.calls 8 6 t708 t709 t710 t711 t712 t713 _ A56.out).mono ?_
 rintro e w208 ⟨rfl, hb⟩
 refine ⟨_, rfl, ?_⟩
 replace HO446 := rw_ HO446 hb
 replace HO707 := rw_ HO707 hb
 replace BK310 := bw_ BK310 hb
 replace BK311 := bw_ BK311 hb
 replace HB := bt_ hb
 (try clear hb)
 (try clear hb2)
 (try clear hk)
 (try clear hi)
 refine hK.out _ _ (by first | exact (cz3_ BK311.out) | exact hHeld) (fun hHeld => ?_)
 clear hK K
 refine norm_ (a' := ?_) ?_ ?_
 rotate_left
 ·show Act.put _ (some 101) _ = _
  simp only [Act.put, sA_, sZ_, sS_, i64_w, i32_w]
  rfl
 refine one_ (i := 3) (N := some 102) (bf_ 12 15) rfl rfl (one_of HT_.out (by kernel_rfl)) (by decide) (fun K hK => ?_)
 refine gs_ Try.func34 #[.string (⟨#[116, 114, 97, 110, 115, 102, 105, 103, 117, 114, 97, 116, 105, 111, 110]⟩ : ByteArray), .int .i64 2, .int .i64 3, .agg #[.int .i64 t708, .int .i64 t709, .int .i64 t710, .int .i64 t711, .int .i64 t712, .int .i64 t713]] ?_
 with_reducible refine (computusref24_feast.calls (⟨#[116, 114, 97, 110, 115, 102, 105, 103, 117, 114, 97, 116, 105, 111, 110]⟩ : ByteArray) 2 3 t708 t709 t710 t711 t712 t713 t714 t715 t716 t717 t718 t719 t720 t721 t722 _ A57.out).mono ?_
 rintro e w209 ⟨rfl, hb⟩
 refine ⟨_, rfl, ?_⟩
 replace HO446 := rw_ HO446 hb
 replace HO707 := rw_ HO707 hb
 replace BK310 := bw_ BK310 hb
 replace BK311 := bw_ BK311 hb
 replace HB := bt_ hb
 (try clear hb)
 (try clear hb2)
 (try clear hk)
 (try clear hi)
 refine hK.out _ _ (by first | exact (cz3_ BK311.out) | exact hHeld) (fun hHeld => ?_)
 clear hK K
 refine norm_ (a' := ?_) ?_ ?_
 rotate_left
 ·show Act.put _ (some 102) _ = _
  simp only [Act.put, sA_, sZ_, sS_, i64_w, i32_w]
  rfl
 refine one_ (i := 4) (N := some 103) (bf_ 12 31) rfl rfl (one_of HT_.out (by kernel_rfl)) (by decide) (fun K hK => ?_)
 refine gs_ Try.func33 #[.int .i64 8, .int .i64 15] ?_
 with_reducible refine (computusref24_fixed.calls 8 15 t723 t724 t725 t726 t727 t728 _ A58.out).mono ?_
 rintro e w210 ⟨rfl, hb⟩
 refine ⟨_, rfl, ?_⟩
 replace HO446 := rw_ HO446 hb
 replace HO707 := rw_ HO707 hb
 replace BK310 := bw_ BK310 hb
 replace BK311 := bw_ BK311 hb
 replace HB := bt_ hb
 (try clear hb)
 (try clear hb2)
 (try clear hk)
 (try clear hi)
 refine hK.out _ _ (by first | exact (cz3_ BK311.out) | exact hHeld) (fun hHeld => ?_)
 clear hK K
 refine norm_ (a' := ?_) ?_ ?_
 rotate_left
 ·show Act.put _ (some 103) _ = _
  simp only [Act.put, sA_, sZ_, sS_, i64_w, i32_w]
  rfl
 refine one_ (i := 5) (N := some 104) (bf_ 12 63) rfl rfl (one_of HT_.out (by kernel_rfl)) (by decide) (fun K hK => ?_)
 refine gs_ Try.func34 #[.string (⟨#[97, 115, 115, 117, 109, 112, 116, 105, 111, 110]⟩ : ByteArray), .int .i64 1, .int .i64 2, .agg #[.int .i64 t723, .int .i64 t724, .int .i64 t725, .int .i64 t726, .int .i64 t727, .int .i64 t728]] ?_
 with_reducible refine (computusref24_feast.calls (⟨#[97, 115, 115, 117, 109, 112, 116, 105, 111, 110]⟩ : ByteArray) 1 2 t723 t724 t725 t726 t727 t728 t729 t730 t731 t732 t733 t734 t735 t736 t737 _ A59.out).mono ?_
 rintro e w211 ⟨rfl, hb⟩
 refine ⟨_, rfl, ?_⟩
 replace HO446 := rw_ HO446 hb
 replace HO707 := rw_ HO707 hb
 replace BK310 := bw_ BK310 hb
 replace BK311 := bw_ BK311 hb
 replace HB := bt_ hb
 (try clear hb)
 (try clear hb2)
 (try clear hk)
 (try clear hi)
 refine hK.out _ _ (by first | exact (cz3_ BK311.out) | exact hHeld) (fun hHeld => ?_)
 clear hK K
 refine norm_ (a' := ?_) ?_ ?_
 rotate_left
 ·show Act.put _ (some 104) _ = _
  simp only [Act.put, sA_, sZ_, sS_, i64_w, i32_w]
  rfl
 refine one_ (i := 6) (N := some 105) (bf_ 12 127) rfl rfl (one_of HT_.out (by kernel_rfl)) (by decide) (fun K hK => ?_)
 refine gs_ Try.func33 #[.int .i64 9, .int .i64 14] ?_
 with_reducible refine (computusref24_fixed.calls 9 14 t738 t739 t740 t741 t742 t743 _ A60.out).mono ?_
 rintro e w212 ⟨rfl, hb⟩
 refine ⟨_, rfl, ?_⟩
 replace HO446 := rw_ HO446 hb
 replace HO707 := rw_ HO707 hb
 replace BK310 := bw_ BK310 hb
 replace BK311 := bw_ BK311 hb
 replace HB := bt_ hb
 (try clear hb)
 (try clear hb2)
 (try clear hk)
 (try clear hi)
 refine hK.out _ _ (by first | exact (cz3_ BK311.out) | exact hHeld) (fun hHeld => ?_)
 clear hK K
 refine norm_ (a' := ?_) ?_ ?_
 rotate_left
 ·show Act.put _ (some 105) _ = _
  simp only [Act.put, sA_, sZ_, sS_, i64_w, i32_w]
  rfl
 refine one_ (i := 7) (N := some 106) (bf_ 12 255) rfl rfl (one_of HT_.out (by kernel_rfl)) (by decide) (fun K hK => ?_)
 refine gs_ Try.func34 #[.string (⟨#[101, 120, 97, 108, 116, 97, 116, 105, 111, 110, 45, 111, 102, 45, 116, 104, 101, 45, 99, 114, 111, 115, 115]⟩ : ByteArray), .int .i64 2, .int .i64 3, .agg #[.int .i64 t738, .int .i64 t739, .int .i64 t740, .int .i64 t741, .int .i64 t742, .int .i64 t743]] ?_
 with_reducible refine (computusref24_feast.calls (⟨#[101, 120, 97, 108, 116, 97, 116, 105, 111, 110, 45, 111, 102, 45, 116, 104, 101, 45, 99, 114, 111, 115, 115]⟩ : ByteArray) 2 3 t738 t739 t740 t741 t742 t743 t744 t745 t746 t747 t748 t749 t750 t751 t752 _ A61.out).mono ?_
 rintro e w213 ⟨rfl, hb⟩
 refine ⟨_, rfl, ?_⟩
 replace HO446 := rw_ HO446 hb
 replace HO707 := rw_ HO707 hb
 replace BK310 := bw_ BK310 hb
 replace BK311 := bw_ BK311 hb
 replace HB := bt_ hb
 (try clear hb)
 (try clear hb2)
 (try clear hk)
 (try clear hi)
 refine hK.out _ _ (by first | exact (cz3_ BK311.out) | exact hHeld) (fun hHeld => ?_)
 clear hK K
 refine norm_ (a' := ?_) ?_ ?_
 rotate_left
 ·show Act.put _ (some 106) _ = _
  simp only [Act.put, sA_, sZ_, sS_, i64_w, i32_w]
  rfl
 refine one_ (i := 8) (N := some 107) (bf_ 12 511) rfl rfl (one_of HT_.out (by kernel_rfl)) (by decide) (fun K hK => ?_)
 refine Kd.R_lit_step k35 _ 35 ?hg (N := 107) ?hd (xs := ([(⟨t714, t715, t716, (⟨t717, t718, t719, t720, t721, t722⟩ : S31)⟩ : S35), (⟨t729, t730, t731, (⟨t732, t733, t734, t735, t736, t737⟩ : S31)⟩ : S35), (⟨t744, t745, t746, (⟨t747, t748, t749, t750, t751, t752⟩ : S31)⟩ : S35)] : List (S35))) (inner := [.string t714, .int .i64 t715, .int .i64 t716, .int .i64 t717, .int .i64 t718, .int .i64 t719, .int .i64 t720, .int .i64 t721, .int .i64 t722, .string t729, .int .i64 t730, .int .i64 t731, .int .i64 t732, .int .i64 t733, .int .i64 t734, .int .i64 t735, .int .i64 t736, .int .i64 t737, .string t744, .int .i64 t745, .int .i64 t746, .int .i64 t747, .int .i64 t748, .int .i64 t749, .int .i64 t750, .int .i64 t751, .int .i64 t752]) (ok := fun _ => True) (okp := fun _ => True) ?hr ?hp (fun _ hk => hk) trivial (Below.refl _ _) (Nat.le_refl _) (by simp) ?_; (case hd => rfl); (case hg => rfl); (case hr => first | (go_simp; done) | (go_simp; rfl)); (case hp => exact (Reps.c9 (show Kd.M k35 _ _ _ (⟨t714, t715, t716, (⟨t717, t718, t719, t720, t721, t722⟩ : S31)⟩ : S35) [.string t714, .int .i64 t715, .int .i64 t716, .int .i64 t717, .int .i64 t718, .int .i64 t719, .int .i64 t720, .int .i64 t721, .int .i64 t722] from (k35_mkM _ _ _ (⟨t714, t715, t716, (⟨t717, t718, t719, t720, t721, t722⟩ : S31)⟩ : S35) )) (Reps.c9 (show Kd.M k35 _ _ _ (⟨t729, t730, t731, (⟨t732, t733, t734, t735, t736, t737⟩ : S31)⟩ : S35) [.string t729, .int .i64 t730, .int .i64 t731, .int .i64 t732, .int .i64 t733, .int .i64 t734, .int .i64 t735, .int .i64 t736, .int .i64 t737] from (k35_mkM _ _ _ (⟨t729, t730, t731, (⟨t732, t733, t734, t735, t736, t737⟩ : S31)⟩ : S35) )) (Reps.c9 (show Kd.M k35 _ _ _ (⟨t744, t745, t746, (⟨t747, t748, t749, t750, t751, t752⟩ : S31)⟩ : S35) [.string t744, .int .i64 t745, .int .i64 t746, .int .i64 t747, .int .i64 t748, .int .i64 t749, .int .i64 t750, .int .i64 t751, .int .i64 t752] from (k35_mkM _ _ _ (⟨t744, t745, t746, (⟨t747, t748, t749, t750, t751, t752⟩ : S31)⟩ : S35) )) (Reps.none _ _)))))
 intro v754 w214 ho215 hb hg_ hnew_
 clear hg_ hnew_
 (first | rw [← Ny753.out] at ho215 | (simp only [Int.reduceToNat] at ho215; rw [← Ny753.out] at ho215))
 replace HO446 := rw_ HO446 hb
 have HO755 := am_ (Kd.R_lower (Kd.R_new' ho215 (Kd.R_lt (rk_ HO707.out))) bz_)
 replace HO707 := am_ (Kd.R_elder' (rk_ HO707.out) (Kd.R_base ho215) hb)
 replace BK310 := bw_ BK310 hb
 replace BK311 := bw_ BK311 hb
 replace HB := bt_ hb
 clear hb ho215
 obtain ⟨Ao217, co217, eo217⟩ := Kd.R_slice HO755.out
 (first | subst eo217 | (injection eo217 with f1_ f2_ f3_; have f4_ := f1_.symm; have f5_ := f3_.symm; clear f1_ f2_ f3_; subst f4_; subst f5_))
 refine hK.out _ _ (by first | exact (cz3_ BK311.out) | exact hHeld) (fun hHeld => ?_)
 clear hK K
 refine norm_ (a' := ?_) ?_ ?_
 rotate_left
 ·show Act.put _ (some 107) _ = _
  simp only [Act.put, sA_, sZ_, sS_, i64_w, i32_w]
  rfl
 refine one_ (i := 9) (N := some 108) (bf_ 12 1023) rfl rfl (one_of HT_.out (by kernel_rfl)) (by decide) (fun K hK => ?_)
 refine Kd.R_append_rows_step k35 (w0 := w) w.heap.size (by rfl) (.tmp 100) (.tmp 107) 24 35 (.agg #[(.string ⟨#[]⟩), (.int .i64 0), (.int .i64 0), (.int .i64 0), (.int .i64 0), (.int .i64 0), (.int .i64 0), (.int .i64 0), (.int .i64 0)]) 80 rfl Try.underlying24 info35 rfl (by decide) (by omega) (.slice Ao204 y705.length co204) y705 y753 _ _ _ (fun _ => True) (fun _ => False) rfl rfl ?aO ?aR (fun _ _ h => h) (fun _ h => h.elim) ?aF ?aB ?aS ?aL ?_
 (case aR => exact ck_ (Kd.R_reads' HO755.out).2.2)
 (case aB => exact bh_)
 (case aF => exact (fun _ _ => trivial))
 (case aO => exact (by (with_reducible repeat (first | apply Kd.R_alloc | apply Kd.R_drewN | apply Kd.R_drew)); exact Kd.R_mono HO707.out (fun _ hk => trivial)))
 (case aS => exact bz_)
 (case aL => have := LMc62.out; omega)
 intro v757 w216 ho hb hg hat
 rw [← Ny756.out] at ho
 have n0_ := am_ (blk_grown (bk_ BK310.out) hg (Kd.R_ne HO707.out BK310.out (by decide)))
 have n1_ := am_ (blk_grown (bk_ BK311.out) hg (Kd.R_ne HO707.out BK311.out (by decide)))
 have n2_ := am_ (Kd.R_over' (rk_ HO446.out) (Kd.R_typed (rk_ HO707.out)) (by decide) hg)
 have n3_ := am_ (hb)
 have n4_ := am_ (ho)
 clear BK310
 clear BK311
 clear HO446
 clear HB
 clear HO707
 clear HO755
 have BK310 := n0_
 have BK311 := n1_
 have HO446 := n2_
 have HB := n3_
 have HO758 := n4_
 clear n0_ n1_ n2_ n3_ n4_
 clear ho hb hg hat
 obtain ⟨Ao218, co218, eo218⟩ := Kd.R_slice HO758.out
 (first | subst eo218 | (injection eo218 with f1_ f2_ f3_; have f4_ := f1_.symm; have f5_ := f3_.symm; clear f1_ f2_ f3_; subst f4_; subst f5_))
 refine hK.out _ _ (by first | exact (cz3_ BK311.out) | exact hHeld) (fun hHeld => ?_)
 clear hK K
 refine norm_ (a' := ?_) ?_ ?_
 rotate_left
 ·show Act.put _ (some 108) _ = _
  simp only [Act.put, sA_, sZ_, sS_, i64_w, i32_w]
  rfl
 refine pu_ 10 (some 109) (bf_ 12 2047) HT_.out ?_
 refine last_ (i := 11) (N := none) (bf_ 12 4095) rfl rfl (one_of HT_.out (by kernel_rfl)) (by decide) (fun K hK => ?_)
 have hs219 : w216.cell? ⟨gb311, 2, none⟩ = some (.slice Ao204 y705.length co204) := (blk_cell BK311.out 2).trans rfl
 have hfs219 := blk_frozen BK311.out 2
 have hns219_0 := NB310_311.out
 have hms219_0 := NB311_310.out
 refine skip_ (w1 := ?_) (by rfl) rfl ?_ ?_
 rotate_left
 ·go_simp
  rfl
 refine hK.out _ _ ?_
 clear hK K
 refine done_ (done_of HT_.out (by kernel_rfl)) ?_
 try go_wp2
 have n0_ : Aside0 (Kd.R k33 33 (w216.setCell ⟨gb311, 2, none⟩ (.slice Ao218 y756.length co218)) w.heap.size (fun _ => True) (.slice Ao126 y444.length co126) y444) := ⟨fa_ HO446 BK311⟩
 have n1_ : Aside0 (Kd.R k35 35 (w216.setCell ⟨gb311, 2, none⟩ (.slice Ao218 y756.length co218)) w.heap.size (fun _ => True) (.slice Ao218 y756.length co218) y756) := ⟨fa_ HO758 BK311⟩
 have n2_ : Aside0 ((w216.setCell ⟨gb311, 2, none⟩ (.slice Ao218 y756.length co218)).heap[gb310]? = some (.cells #[.int .i64 0, .slice none 0 0, .slice none 0 0] 26 (0, 0))) := ⟨bf1_ NB310_311 BK310⟩
 have n3_ : Aside0 ((w216.setCell ⟨gb311, 2, none⟩ (.slice Ao218 y756.length co218)).heap[gb311]? = some (.cells #[.int .i64 5, .slice Ao126 y444.length co126, .slice Ao218 y756.length co218] 26 (0, 0))) := ⟨by refine bp_ ?_; refine blk_put (cs := #[.int .i64 5, .slice Ao126 y444.length co126, .slice Ao204 y705.length co204]) ?_ 2 _ rfl; exact bk_ BK311.out⟩
 have n4_ : Aside0 (Below w.heap.size w (w216.setCell ⟨gb311, 2, none⟩ (.slice Ao218 y756.length co218))) := ⟨bh_⟩
 (try clear HO446)
 (try clear HO758)
 (try clear BK310)
 (try clear BK311)
 (try clear HB)
 generalize (w216.setCell ⟨gb311, 2, none⟩ (.slice Ao218 y756.length co218)) = w220 at n0_ n1_ n2_ n3_ n4_ ⊢
 have HO446 := n0_
 have HO758 := n1_
 have BK310 := n2_
 have BK311 := n3_
 have HB := n4_
 clear n0_ n1_ n2_ n3_ n4_
 replace HO446 := am_ (Kd.R_drew HO446.out)
 replace HO758 := am_ (Kd.R_drew HO758.out)
 replace BK310 := am_ (blk_drew BK310.out)
 replace BK311 := am_ (blk_drew BK311.out)
 replace HB := am_ (below_drew1 HB.out)
 refine start_ (n := 12) (S := fun w' => w'.cell? ⟨gb311, 0, none⟩ = some (.int .i64 5) ∧ w'.cell? ⟨gb311, 1, none⟩ = some (.slice Ao126 y444.length co126) ∧ w'.cell? ⟨gb311, 2, none⟩ = some (.slice Ao218 y756.length co218)) (ds := [11]) (bf_ 12 0) (by kernel_rfl) rfl rfl (cz3_ BK311.out) (fun hHeld => ?_); refine with_tabW computusref24_Catalogue.tab13 computusref24_Catalogue.bits13 (fun HT_ HW_ => ?_)
 generalize w220.drew = w221 at HO446 HO758 BK310 BK311 HB hHeld ⊢
 refine pu_ 0 (some 110) (bf_ 12 1) HT_.out ?_
 refine ta_ 1 (some 111) (bf_ 12 3) HT_.out HW_.out hHeld ?_
 refine one_ (i := 2) (N := some 112) (bf_ 12 7) rfl rfl (one_of HT_.out (by kernel_rfl)) (by decide) (fun K hK => ?_)
 refine gs_ Try.func33 #[.int .i64 11, .int .i64 1] ?_
 with_reducible refine (computusref24_fixed.calls 11 1 t759 t760 t761 t762 t763 t764 _ A63.out).mono ?_
 rintro e w222 ⟨rfl, hb⟩
 refine ⟨_, rfl, ?_⟩
 replace HO446 := rw_ HO446 hb
 replace HO758 := rw_ HO758 hb
 replace BK310 := bw_ BK310 hb
 replace BK311 := bw_ BK311 hb
 replace HB := bt_ hb
 (try clear hb)
 (try clear hb2)
 (try clear hk)
 (try clear hi)
 refine hK.out _ _ (by first | exact (cz3_ BK311.out) | exact hHeld) (fun hHeld => ?_)
 clear hK K
 refine norm_ (a' := ?_) ?_ ?_
 rotate_left
 ·show Act.put _ (some 112) _ = _
  simp only [Act.put, sA_, sZ_, sS_, i64_w, i32_w]
  rfl
 refine one_ (i := 3) (N := some 113) (bf_ 12 15) rfl rfl (one_of HT_.out (by kernel_rfl)) (by decide) (fun K hK => ?_)
 refine gs_ Try.func34 #[.string (⟨#[97, 108, 108, 45, 115, 97, 105, 110, 116, 115]⟩ : ByteArray), .int .i64 1, .int .i64 2, .agg #[.int .i64 t759, .int .i64 t760, .int .i64 t761, .int .i64 t762, .int .i64 t763, .int .i64 t764]] ?_
 with_reducible refine (computusref24_feast.calls (⟨#[97, 108, 108, 45, 115, 97, 105, 110, 116, 115]⟩ : ByteArray) 1 2 t759 t760 t761 t762 t763 t764 t765 t766 t767 t768 t769 t770 t771 t772 t773 _ A64.out).mono ?_
 rintro e w223 ⟨rfl, hb⟩
 refine ⟨_, rfl, ?_⟩
 replace HO446 := rw_ HO446 hb
 replace HO758 := rw_ HO758 hb
 replace BK310 := bw_ BK310 hb
 replace BK311 := bw_ BK311 hb
 replace HB := bt_ hb
 (try clear hb)
 (try clear hb2)
 (try clear hk)
 (try clear hi)
 refine hK.out _ _ (by first | exact (cz3_ BK311.out) | exact hHeld) (fun hHeld => ?_)
 clear hK K
 refine norm_ (a' := ?_) ?_ ?_
 rotate_left
 ·show Act.put _ (some 113) _ = _
  simp only [Act.put, sA_, sZ_, sS_, i64_w, i32_w]
  rfl
 refine one_ (i := 4) (N := some 114) (bf_ 12 31) rfl rfl (one_of HT_.out (by kernel_rfl)) (by decide) (fun K hK => ?_)
 refine gs_ Try.func33 #[.int .i64 11, .int .i64 2] ?_
 with_reducible refine (computusref24_fixed.calls 11 2 t774 t775 t776 t777 t778 t779 _ A65.out).mono ?_
 rintro e w224 ⟨rfl, hb⟩
 refine ⟨_, rfl, ?_⟩
 replace HO446 := rw_ HO446 hb
 replace HO758 := rw_ HO758 hb
 replace BK310 := bw_ BK310 hb
 replace BK311 := bw_ BK311 hb
 replace HB := bt_ hb
 (try clear hb)
 (try clear hb2)
 (try clear hk)
 (try clear hi)
 refine hK.out _ _ (by first | exact (cz3_ BK311.out) | exact hHeld) (fun hHeld => ?_)
 clear hK K
 refine norm_ (a' := ?_) ?_ ?_
 rotate_left
 ·show Act.put _ (some 114) _ = _
  simp only [Act.put, sA_, sZ_, sS_, i64_w, i32_w]
  rfl
 refine one_ (i := 5) (N := some 115) (bf_ 12 63) rfl rfl (one_of HT_.out (by kernel_rfl)) (by decide) (fun K hK => ?_)
 refine gs_ Try.func34 #[.string (⟨#[97, 108, 108, 45, 115, 111, 117, 108, 115]⟩ : ByteArray), .int .i64 3, .int .i64 3, .agg #[.int .i64 t774, .int .i64 t775, .int .i64 t776, .int .i64 t777, .int .i64 t778, .int .i64 t779]] ?_
 with_reducible refine (computusref24_feast.calls (⟨#[97, 108, 108, 45, 115, 111, 117, 108, 115]⟩ : ByteArray) 3 3 t774 t775 t776 t777 t778 t779 t780 t781 t782 t783 t784 t785 t786 t787 t788 _ A66.out).mono ?_
 rintro e w225 ⟨rfl, hb⟩
 refine ⟨_, rfl, ?_⟩
 replace HO446 := rw_ HO446 hb
 replace HO758 := rw_ HO758 hb
 replace BK310 := bw_ BK310 hb
 replace BK311 := bw_ BK311 hb
 replace HB := bt_ hb
 (try clear hb)
 (try clear hb2)
 (try clear hk)
 (try clear hi)
 refine hK.out _ _ (by first | exact (cz3_ BK311.out) | exact hHeld) (fun hHeld => ?_)
 clear hK K
 refine norm_ (a' := ?_) ?_ ?_
 rotate_left
 ·show Act.put _ (some 115) _ = _
  simp only [Act.put, sA_, sZ_, sS_, i64_w, i32_w]
  rfl
 refine one_ (i := 6) (N := some 116) (bf_ 12 127) rfl rfl (one_of HT_.out (by kernel_rfl)) (by decide) (fun K hK => ?_)
 refine gs_ Try.func32 #[.int .i64 11, .int .i64 20] ?_
 with_reducible refine (computusref24_sunday.calls 11 20 t789 t790 t791 t792 t793 t794 _ A67.out).mono ?_
 rintro e w226 ⟨rfl, hb⟩
 refine ⟨_, rfl, ?_⟩
 replace HO446 := rw_ HO446 hb
 replace HO758 := rw_ HO758 hb
 replace BK310 := bw_ BK310 hb
 replace BK311 := bw_ BK311 hb
 replace HB := bt_ hb
 (try clear hb)
 (try clear hb2)
 (try clear hk)
 (try clear hi)
 refine hK.out _ _ (by first | exact (cz3_ BK311.out) | exact hHeld) (fun hHeld => ?_)
 clear hK K
 refine norm_ (a' := ?_) ?_ ?_
 rotate_left
 ·show Act.put _ (some 116) _ = _
  simp only [Act.put, sA_, sZ_, sS_, i64_w, i32_w]
  rfl
 refine one_ (i := 7) (N := some 117) (bf_ 12 255) rfl rfl (one_of HT_.out (by kernel_rfl)) (by decide) (fun K hK => ?_)
 refine gs_ Try.func34 #[.string (⟨#[99, 104, 114, 105, 115, 116, 45, 116, 104, 101, 45, 107, 105, 110, 103]⟩ : ByteArray), .int .i64 1, .int .i64 3, .agg #[.int .i64 t789, .int .i64 t790, .int .i64 t791, .int .i64 t792, .int .i64 t793, .int .i64 t794]] ?_
 with_reducible refine (computusref24_feast.calls (⟨#[99, 104, 114, 105, 115, 116, 45, 116, 104, 101, 45, 107, 105, 110, 103]⟩ : ByteArray) 1 3 t789 t790 t791 t792 t793 t794 t795 t796 t797 t798 t799 t800 t801 t802 t803 _ A68.out).mono ?_
 rintro e w227 ⟨rfl, hb⟩
 refine ⟨_, rfl, ?_⟩
 replace HO446 := rw_ HO446 hb
 replace HO758 := rw_ HO758 hb
 replace BK310 := bw_ BK310 hb
 replace BK311 := bw_ BK311 hb
 replace HB := bt_ hb
 (try clear hb)
 (try clear hb2)
 (try clear hk)
 (try clear hi)
 refine hK.out _ _ (by first | exact (cz3_ BK311.out) | exact hHeld) (fun hHeld => ?_)
 clear hK K
 refine norm_ (a' := ?_) ?_ ?_
 rotate_left
 ·show Act.put _ (some 117) _ = _
  simp only [Act.put, sA_, sZ_, sS_, i64_w, i32_w]
  rfl
 refine one_ (i := 8) (N := some 118) (bf_ 12 511) rfl rfl (one_of HT_.out (by kernel_rfl)) (by decide) (fun K hK => ?_)
 refine Kd.R_lit_step k35 _ 35 ?hg (N := 118) ?hd (xs := ([(⟨t765, t766, t767, (⟨t768, t769, t770, t771, t772, t773⟩ : S31)⟩ : S35), (⟨t780, t781, t782, (⟨t783, t784, t785, t786, t787, t788⟩ : S31)⟩ : S35), (⟨t795, t796, t797, (⟨t798, t799, t800, t801, t802, t803⟩ : S31)⟩ : S35)] : List (S35))) (inner := [.string t765, .int .i64 t766, .int .i64 t767, .int .i64 t768, .int .i64 t769, .int .i64 t770, .int .i64 t771, .int .i64 t772, .int .i64 t773, .string t780, .int .i64 t781, .int .i64 t782, .int .i64 t783, .int .i64 t784, .int .i64 t785, .int .i64 t786, .int .i64 t787, .int .i64 t788, .string t795, .int .i64 t796, .int .i64 t797, .int .i64 t798, .int .i64 t799, .int .i64 t800, .int .i64 t801, .int .i64 t802, .int .i64 t803]) (ok := fun _ => True) (okp := fun _ => True) ?hr ?hp (fun _ hk => hk) trivial (Below.refl _ _) (Nat.le_refl _) (by simp) ?_; (case hd => rfl); (case hg => rfl); (case hr => first | (go_simp; done) | (go_simp; rfl)); (case hp => exact (Reps.c9 (show Kd.M k35 _ _ _ (⟨t765, t766, t767, (⟨t768, t769, t770, t771, t772, t773⟩ : S31)⟩ : S35) [.string t765, .int .i64 t766, .int .i64 t767, .int .i64 t768, .int .i64 t769, .int .i64 t770, .int .i64 t771, .int .i64 t772, .int .i64 t773] from (k35_mkM _ _ _ (⟨t765, t766, t767, (⟨t768, t769, t770, t771, t772, t773⟩ : S31)⟩ : S35) )) (Reps.c9 (show Kd.M k35 _ _ _ (⟨t780, t781, t782, (⟨t783, t784, t785, t786, t787, t788⟩ : S31)⟩ : S35) [.string t780, .int .i64 t781, .int .i64 t782, .int .i64 t783, .int .i64 t784, .int .i64 t785, .int .i64 t786, .int .i64 t787, .int .i64 t788] from (k35_mkM _ _ _ (⟨t780, t781, t782, (⟨t783, t784, t785, t786, t787, t788⟩ : S31)⟩ : S35) )) (Reps.c9 (show Kd.M k35 _ _ _ (⟨t795, t796, t797, (⟨t798, t799, t800, t801, t802, t803⟩ : S31)⟩ : S35) [.string t795, .int .i64 t796, .int .i64 t797, .int .i64 t798, .int .i64 t799, .int .i64 t800, .int .i64 t801, .int .i64 t802, .int .i64 t803] from (k35_mkM _ _ _ (⟨t795, t796, t797, (⟨t798, t799, t800, t801, t802, t803⟩ : S31)⟩ : S35) )) (Reps.none _ _)))))
 intro v805 w228 ho229 hb hg_ hnew_
 clear hg_ hnew_
 (first | rw [← Ny804.out] at ho229 | (simp only [Int.reduceToNat] at ho229; rw [← Ny804.out] at ho229))
 replace HO446 := rw_ HO446 hb
 have HO806 := am_ (Kd.R_lower (Kd.R_new' ho229 (Kd.R_lt (rk_ HO758.out))) bz_)
 replace HO758 := am_ (Kd.R_elder' (rk_ HO758.out) (Kd.R_base ho229) hb)
 replace BK310 := bw_ BK310 hb
 replace BK311 := bw_ BK311 hb
 replace HB := bt_ hb
 clear hb ho229
 obtain ⟨Ao231, co231, eo231⟩ := Kd.R_slice HO806.out
 (first | subst eo231 | (injection eo231 with f1_ f2_ f3_; have f4_ := f1_.symm; have f5_ := f3_.symm; clear f1_ f2_ f3_; subst f4_; subst f5_))
 refine hK.out _ _ (by first | exact (cz3_ BK311.out) | exact hHeld) (fun hHeld => ?_)
 clear hK K
 refine norm_ (a' := ?_) ?_ ?_
 rotate_left
 ·show Act.put _ (some 118) _ = _
  simp only [Act.put, sA_, sZ_, sS_, i64_w, i32_w]
  rfl
 refine one_ (i := 9) (N := some 119) (bf_ 12 1023) rfl rfl (one_of HT_.out (by kernel_rfl)) (by decide) (fun K hK => ?_)
 refine Kd.R_append_rows_step k35 (w0 := w) w.heap.size (by rfl) (.tmp 111) (.tmp 118) 24 35 (.agg #[(.string ⟨#[]⟩), (.int .i64 0), (.int .i64 0), (.int .i64 0), (.int .i64 0), (.int .i64 0), (.int .i64 0), (.int .i64 0), (.int .i64 0)]) 80 rfl Try.underlying24 info35 rfl (by decide) (by omega) (.slice Ao218 y756.length co218) y756 y804 _ _ _ (fun _ => True) (fun _ => False) rfl rfl ?aO ?aR (fun _ _ h => h) (fun _ h => h.elim) ?aF ?aB ?aS ?aL ?_
 (case aR => exact ck_ (Kd.R_reads' HO806.out).2.2)
 (case aB => exact bh_)
 (case aF => exact (fun _ _ => trivial))
 (case aO => exact (by (with_reducible repeat (first | apply Kd.R_alloc | apply Kd.R_drewN | apply Kd.R_drew)); exact Kd.R_mono HO758.out (fun _ hk => trivial)))
 (case aS => exact bz_)
 (case aL => have := LMc69.out; omega)
 intro v808 w230 ho hb hg hat
 rw [← Ny807.out] at ho
 have n0_ := am_ (blk_grown (bk_ BK310.out) hg (Kd.R_ne HO758.out BK310.out (by decide)))
 have n1_ := am_ (blk_grown (bk_ BK311.out) hg (Kd.R_ne HO758.out BK311.out (by decide)))
 have n2_ := am_ (Kd.R_over' (rk_ HO446.out) (Kd.R_typed (rk_ HO758.out)) (by decide) hg)
 have n3_ := am_ (hb)
 have n4_ := am_ (ho)
 clear BK310
 clear BK311
 clear HO446
 clear HB
 clear HO758
 clear HO806
 have BK310 := n0_
 have BK311 := n1_
 have HO446 := n2_
 have HB := n3_
 have HO809 := n4_
 clear n0_ n1_ n2_ n3_ n4_
 clear ho hb hg hat
 obtain ⟨Ao232, co232, eo232⟩ := Kd.R_slice HO809.out
 (first | subst eo232 | (injection eo232 with f1_ f2_ f3_; have f4_ := f1_.symm; have f5_ := f3_.symm; clear f1_ f2_ f3_; subst f4_; subst f5_))
 refine hK.out _ _ (by first | exact (cz3_ BK311.out) | exact hHeld) (fun hHeld => ?_)
 clear hK K
 refine norm_ (a' := ?_) ?_ ?_
 rotate_left
 ·show Act.put _ (some 119) _ = _
  simp only [Act.put, sA_, sZ_, sS_, i64_w, i32_w]
  rfl
 refine pu_ 10 (some 120) (bf_ 12 2047) HT_.out ?_
 refine last_ (i := 11) (N := none) (bf_ 12 4095) rfl rfl (one_of HT_.out (by kernel_rfl)) (by decide) (fun K hK => ?_)
 have hs233 : w230.cell? ⟨gb311, 2, none⟩ = some (.slice Ao218 y756.length co218) := (blk_cell BK311.out 2).trans rfl
 have hfs233 := blk_frozen BK311.out 2
 have hns233_0 := NB310_311.out
 have hms233_0 := NB311_310.out
 refine skip_ (w1 := ?_) (by rfl) rfl ?_ ?_
 rotate_left
 ·go_simp
  rfl
 refine hK.out _ _ ?_
 clear hK K
 refine done_ (done_of HT_.out (by kernel_rfl)) ?_
 try go_wp2
 have n0_ : Aside0 (Kd.R k33 33 (w230.setCell ⟨gb311, 2, none⟩ (.slice Ao232 y807.length co232)) w.heap.size (fun _ => True) (.slice Ao126 y444.length co126) y444) := ⟨fa_ HO446 BK311⟩
 have n1_ : Aside0 (Kd.R k35 35 (w230.setCell ⟨gb311, 2, none⟩ (.slice Ao232 y807.length co232)) w.heap.size (fun _ => True) (.slice Ao232 y807.length co232) y807) := ⟨fa_ HO809 BK311⟩
 have n2_ : Aside0 ((w230.setCell ⟨gb311, 2, none⟩ (.slice Ao232 y807.length co232)).heap[gb310]? = some (.cells #[.int .i64 0, .slice none 0 0, .slice none 0 0] 26 (0, 0))) := ⟨bf1_ NB310_311 BK310⟩
 have n3_ : Aside0 ((w230.setCell ⟨gb311, 2, none⟩ (.slice Ao232 y807.length co232)).heap[gb311]? = some (.cells #[.int .i64 5, .slice Ao126 y444.length co126, .slice Ao232 y807.length co232] 26 (0, 0))) := ⟨by refine bp_ ?_; refine blk_put (cs := #[.int .i64 5, .slice Ao126 y444.length co126, .slice Ao218 y756.length co218]) ?_ 2 _ rfl; exact bk_ BK311.out⟩
 have n4_ : Aside0 (Below w.heap.size w (w230.setCell ⟨gb311, 2, none⟩ (.slice Ao232 y807.length co232))) := ⟨bh_⟩
 (try clear HO446)
 (try clear HO809)
 (try clear BK310)
 (try clear BK311)
 (try clear HB)
 generalize (w230.setCell ⟨gb311, 2, none⟩ (.slice Ao232 y807.length co232)) = w234 at n0_ n1_ n2_ n3_ n4_ ⊢
 have HO446 := n0_
 have HO809 := n1_
 have BK310 := n2_
 have BK311 := n3_
 have HB := n4_
 clear n0_ n1_ n2_ n3_ n4_
 replace HO446 := am_ (Kd.R_drew HO446.out)
 replace HO809 := am_ (Kd.R_drew HO809.out)
 replace BK310 := am_ (blk_drew BK310.out)
 replace BK311 := am_ (blk_drew BK311.out)
 replace HB := am_ (below_drew1 HB.out)
 refine start_ (n := 10) (S := fun w' => w'.cell? ⟨gb311, 0, none⟩ = some (.int .i64 5) ∧ w'.cell? ⟨gb311, 1, none⟩ = some (.slice Ao126 y444.length co126) ∧ w'.cell? ⟨gb311, 2, none⟩ = some (.slice Ao232 y807.length co232)) (ds := [9]) (bf_ 10 0) (by kernel_rfl) rfl rfl (cz3_ BK311.out) (fun hHeld => ?_); refine with_tabW computusref24_Catalogue.tab14 computusref24_Catalogue.bits14 (fun HT_ HW_ => ?_)
 generalize w234.drew = w235 at HO446 HO809 BK310 BK311 HB hHeld ⊢
 refine pu_ 0 (some 121) (bf_ 10 1) HT_.out ?_
 refine ta_ 1 (some 122) (bf_ 10 3) HT_.out HW_.out hHeld ?_
 refine one_ (i := 2) (N := some 123) (bf_ 10 7) rfl rfl (one_of HT_.out (by kernel_rfl)) (by decide) (fun K hK => ?_)
 refine gs_ Try.func33 #[.int .i64 11, .int .i64 30] ?_
 with_reducible refine (computusref24_fixed.calls 11 30 t810 t811 t812 t813 t814 t815 _ A70.out).mono ?_
 rintro e w236 ⟨rfl, hb⟩
 refine ⟨_, rfl, ?_⟩
 replace HO446 := rw_ HO446 hb
 replace HO809 := rw_ HO809 hb
 replace BK310 := bw_ BK310 hb
 replace BK311 := bw_ BK311 hb
 replace HB := bt_ hb
 (try clear hb)
 (try clear hb2)
 (try clear hk)
 (try clear hi)
 refine hK.out _ _ (by first | exact (cz3_ BK311.out) | exact hHeld) (fun hHeld => ?_)
 clear hK K
 refine norm_ (a' := ?_) ?_ ?_
 rotate_left
 ·show Act.put _ (some 123) _ = _
  simp only [Act.put, sA_, sZ_, sS_, i64_w, i32_w]
  rfl
 refine one_ (i := 3) (N := some 124) (bf_ 10 15) rfl rfl (one_of HT_.out (by kernel_rfl)) (by decide) (fun K hK => ?_)
 refine gs_ Try.func34 #[.string (⟨#[97, 110, 100, 114, 101, 119]⟩ : ByteArray), .int .i64 4, .int .i64 2, .agg #[.int .i64 t810, .int .i64 t811, .int .i64 t812, .int .i64 t813, .int .i64 t814, .int .i64 t815]] ?_
 with_reducible refine (computusref24_feast.calls (⟨#[97, 110, 100, 114, 101, 119]⟩ : ByteArray) 4 2 t810 t811 t812 t813 t814 t815 t816 t817 t818 t819 t820 t821 t822 t823 t824 _ A71.out).mono ?_
 rintro e w237 ⟨rfl, hb⟩
 refine ⟨_, rfl, ?_⟩
 replace HO446 := rw_ HO446 hb
 replace HO809 := rw_ HO809 hb
 replace BK310 := bw_ BK310 hb
 replace BK311 := bw_ BK311 hb
 replace HB := bt_ hb
 (try clear hb)
 (try clear hb2)
 (try clear hk)
 (try clear hi)
 refine hK.out _ _ (by first | exact (cz3_ BK311.out) | exact hHeld) (fun hHeld => ?_)
 clear hK K
 refine norm_ (a' := ?_) ?_ ?_
 rotate_left
 ·show Act.put _ (some 124) _ = _
  simp only [Act.put, sA_, sZ_, sS_, i64_w, i32_w]
  rfl
 refine one_ (i := 4) (N := some 125) (bf_ 10 31) rfl rfl (one_of HT_.out (by kernel_rfl)) (by decide) (fun K hK => ?_)
 refine gs_ Try.func33 #[.int .i64 12, .int .i64 8] ?_
 with_reducible refine (computusref24_fixed.calls 12 8 t825 t826 t827 t828 t829 t830 _ A72.out).mono ?_
 rintro e w238 ⟨rfl, hb⟩
 refine ⟨_, rfl, ?_⟩
 replace HO446 := rw_ HO446 hb
 replace HO809 := rw_ HO809 hb
 replace BK310 := bw_ BK310 hb
 replace BK311 := bw_ BK311 hb
 replace HB := bt_ hb
 (try clear hb)
 (try clear hb2)
 (try clear hk)
 (try clear hi)
 refine hK.out _ _ (by first | exact (cz3_ BK311.out) | exact hHeld) (fun hHeld => ?_)
 clear hK K
 refine norm_ (a' := ?_) ?_ ?_
 rotate_left
 ·show Act.put _ (some 125) _ = _
  simp only [Act.put, sA_, sZ_, sS_, i64_w, i32_w]
  rfl
 refine one_ (i := 5) (N := some 126) (bf_ 10 63) rfl rfl (one_of HT_.out (by kernel_rfl)) (by decide) (fun K hK => ?_)
 refine gs_ Try.func34 #[.string (⟨#[105, 109, 109, 97, 99, 117, 108, 97, 116, 101, 45, 99, 111, 110, 99, 101, 112, 116, 105, 111, 110]⟩ : ByteArray), .int .i64 1, .int .i64 1, .agg #[.int .i64 t825, .int .i64 t826, .int .i64 t827, .int .i64 t828, .int .i64 t829, .int .i64 t830]] ?_
 with_reducible refine (computusref24_feast.calls (⟨#[105, 109, 109, 97, 99, 117, 108, 97, 116, 101, 45, 99, 111, 110, 99, 101, 112, 116, 105, 111, 110]⟩ : ByteArray) 1 1 t825 t826 t827 t828 t829 t830 t831 t832 t833 t834 t835 t836 t837 t838 t839 _ A73.out).mono ?_
 rintro e w239 ⟨rfl, hb⟩
 refine ⟨_, rfl, ?_⟩
 replace HO446 := rw_ HO446 hb
 replace HO809 := rw_ HO809 hb
 replace BK310 := bw_ BK310 hb
 replace BK311 := bw_ BK311 hb
 replace HB := bt_ hb
 (try clear hb)
 (try clear hb2)
 (try clear hk)
 (try clear hi)
 refine hK.out _ _ (by first | exact (cz3_ BK311.out) | exact hHeld) (fun hHeld => ?_)
 clear hK K
 refine norm_ (a' := ?_) ?_ ?_
 rotate_left
 ·show Act.put _ (some 126) _ = _
  simp only [Act.put, sA_, sZ_, sS_, i64_w, i32_w]
  rfl
 refine one_ (i := 6) (N := some 127) (bf_ 10 127) rfl rfl (one_of HT_.out (by kernel_rfl)) (by decide) (fun K hK => ?_)
 refine Kd.R_lit_step k35 _ 35 ?hg (N := 127) ?hd (xs := ([(⟨t816, t817, t818, (⟨t819, t820, t821, t822, t823, t824⟩ : S31)⟩ : S35), (⟨t831, t832, t833, (⟨t834, t835, t836, t837, t838, t839⟩ : S31)⟩ : S35)] : List (S35))) (inner := [.string t816, .int .i64 t817, .int .i64 t818, .int .i64 t819, .int .i64 t820, .int .i64 t821, .int .i64 t822, .int .i64 t823, .int .i64 t824, .string t831, .int .i64 t832, .int .i64 t833, .int .i64 t834, .int .i64 t835, .int .i64 t836, .int .i64 t837, .int .i64 t838, .int .i64 t839]) (ok := fun _ => True) (okp := fun _ => True) ?hr ?hp (fun _ hk => hk) trivial (Below.refl _ _) (Nat.le_refl _) (by simp) ?_; (case hd => rfl); (case hg => rfl); (case hr => first | (go_simp; done) | (go_simp; rfl)); (case hp => exact (Reps.c9 (show Kd.M k35 _ _ _ (⟨t816, t817, t818, (⟨t819, t820, t821, t822, t823, t824⟩ : S31)⟩ : S35) [.string t816, .int .i64 t817, .int .i64 t818, .int .i64 t819, .int .i64 t820, .int .i64 t821, .int .i64 t822, .int .i64 t823, .int .i64 t824] from (k35_mkM _ _ _ (⟨t816, t817, t818, (⟨t819, t820, t821, t822, t823, t824⟩ : S31)⟩ : S35) )) (Reps.c9 (show Kd.M k35 _ _ _ (⟨t831, t832, t833, (⟨t834, t835, t836, t837, t838, t839⟩ : S31)⟩ : S35) [.string t831, .int .i64 t832, .int .i64 t833, .int .i64 t834, .int .i64 t835, .int .i64 t836, .int .i64 t837, .int .i64 t838, .int .i64 t839] from (k35_mkM _ _ _ (⟨t831, t832, t833, (⟨t834, t835, t836, t837, t838, t839⟩ : S31)⟩ : S35) )) (Reps.none _ _))))
 intro v841 w240 ho241 hb hg_ hnew_
 clear hg_ hnew_
 (first | rw [← Ny840.out] at ho241 | (simp only [Int.reduceToNat] at ho241; rw [← Ny840.out] at ho241))
 replace HO446 := rw_ HO446 hb
 have HO842 := am_ (Kd.R_lower (Kd.R_new' ho241 (Kd.R_lt (rk_ HO809.out))) bz_)
 replace HO809 := am_ (Kd.R_elder' (rk_ HO809.out) (Kd.R_base ho241) hb)
 replace BK310 := bw_ BK310 hb
 replace BK311 := bw_ BK311 hb
 replace HB := bt_ hb
 clear hb ho241
 obtain ⟨Ao243, co243, eo243⟩ := Kd.R_slice HO842.out
 (first | subst eo243 | (injection eo243 with f1_ f2_ f3_; have f4_ := f1_.symm; have f5_ := f3_.symm; clear f1_ f2_ f3_; subst f4_; subst f5_))
 refine hK.out _ _ (by first | exact (cz3_ BK311.out) | exact hHeld) (fun hHeld => ?_)
 clear hK K
 refine norm_ (a' := ?_) ?_ ?_
 rotate_left
 ·show Act.put _ (some 127) _ = _
  simp only [Act.put, sA_, sZ_, sS_, i64_w, i32_w]
  rfl
 refine one_ (i := 7) (N := some 128) (bf_ 10 255) rfl rfl (one_of HT_.out (by kernel_rfl)) (by decide) (fun K hK => ?_)
 refine Kd.R_append_rows_step k35 (w0 := w) w.heap.size (by rfl) (.tmp 122) (.tmp 127) 24 35 (.agg #[(.string ⟨#[]⟩), (.int .i64 0), (.int .i64 0), (.int .i64 0), (.int .i64 0), (.int .i64 0), (.int .i64 0), (.int .i64 0), (.int .i64 0)]) 80 rfl Try.underlying24 info35 rfl (by decide) (by omega) (.slice Ao232 y807.length co232) y807 y840 _ _ _ (fun _ => True) (fun _ => False) rfl rfl ?aO ?aR (fun _ _ h => h) (fun _ h => h.elim) ?aF ?aB ?aS ?aL ?_
 (case aR => exact ck_ (Kd.R_reads' HO842.out).2.2)
 (case aB => exact bh_)
 (case aF => exact (fun _ _ => trivial))
 (case aO => exact (by (with_reducible repeat (first | apply Kd.R_alloc | apply Kd.R_drewN | apply Kd.R_drew)); exact Kd.R_mono HO809.out (fun _ hk => trivial)))
 (case aS => exact bz_)
 (case aL => have := LMc74.out; omega)
 intro v844 w242 ho hb hg hat
 rw [← Ny843.out] at ho
 have n0_ := am_ (blk_grown (bk_ BK310.out) hg (Kd.R_ne HO809.out BK310.out (by decide)))
 have n1_ := am_ (blk_grown (bk_ BK311.out) hg (Kd.R_ne HO809.out BK311.out (by decide)))
 have n2_ := am_ (Kd.R_over' (rk_ HO446.out) (Kd.R_typed (rk_ HO809.out)) (by decide) hg)
 have n3_ := am_ (hb)
 have n4_ := am_ (ho)
 clear BK310
 clear BK311
 clear HO446
 clear HB
 clear HO809
 clear HO842
 have BK310 := n0_
 have BK311 := n1_
 have HO446 := n2_
 have HB := n3_
 have HO845 := n4_
 clear n0_ n1_ n2_ n3_ n4_
 clear ho hb hg hat
 obtain ⟨Ao244, co244, eo244⟩ := Kd.R_slice HO845.out
 (first | subst eo244 | (injection eo244 with f1_ f2_ f3_; have f4_ := f1_.symm; have f5_ := f3_.symm; clear f1_ f2_ f3_; subst f4_; subst f5_))
 refine hK.out _ _ (by first | exact (cz3_ BK311.out) | exact hHeld) (fun hHeld => ?_)
 clear hK K
 refine norm_ (a' := ?_) ?_ ?_
 rotate_left
 ·show Act.put _ (some 128) _ = _
  simp only [Act.put, sA_, sZ_, sS_, i64_w, i32_w]
  rfl
 refine pu_ 8 (some 129) (bf_ 10 511) HT_.out ?_
 refine last_ (i := 9) (N := none) (bf_ 10 1023) rfl rfl (one_of HT_.out (by kernel_rfl)) (by decide) (fun K hK => ?_)
 have hs245 : w242.cell? ⟨gb311, 2, none⟩ = some (.slice Ao232 y807.length co232) := (blk_cell BK311.out 2).trans rfl
 have hfs245 := blk_frozen BK311.out 2
 have hns245_0 := NB310_311.out
 have hms245_0 := NB311_310.out
 refine skip_ (w1 := ?_) (by rfl) rfl ?_ ?_
 rotate_left
 ·go_simp
  rfl
 refine hK.out _ _ ?_
 clear hK K
 refine done_ (done_of HT_.out (by kernel_rfl)) ?_
 try go_wp2
 have n0_ : Aside0 (Kd.R k33 33 (w242.setCell ⟨gb311, 2, none⟩ (.slice Ao244 y843.length co244)) w.heap.size (fun _ => True) (.slice Ao126 y444.length co126) y444) := ⟨fa_ HO446 BK311⟩
 have n1_ : Aside0 (Kd.R k35 35 (w242.setCell ⟨gb311, 2, none⟩ (.slice Ao244 y843.length co244)) w.heap.size (fun _ => True) (.slice Ao244 y843.length co244) y843) := ⟨fa_ HO845 BK311⟩
 have n2_ : Aside0 ((w242.setCell ⟨gb311, 2, none⟩ (.slice Ao244 y843.length co244)).heap[gb310]? = some (.cells #[.int .i64 0, .slice none 0 0, .slice none 0 0] 26 (0, 0))) := ⟨bf1_ NB310_311 BK310⟩
 have n3_ : Aside0 ((w242.setCell ⟨gb311, 2, none⟩ (.slice Ao244 y843.length co244)).heap[gb311]? = some (.cells #[.int .i64 5, .slice Ao126 y444.length co126, .slice Ao244 y843.length co244] 26 (0, 0))) := ⟨by refine bp_ ?_; refine blk_put (cs := #[.int .i64 5, .slice Ao126 y444.length co126, .slice Ao232 y807.length co232]) ?_ 2 _ rfl; exact bk_ BK311.out⟩
 have n4_ : Aside0 (Below w.heap.size w (w242.setCell ⟨gb311, 2, none⟩ (.slice Ao244 y843.length co244))) := ⟨bh_⟩
 (try clear HO446)
 (try clear HO845)
 (try clear BK310)
 (try clear BK311)
 (try clear HB)
 generalize (w242.setCell ⟨gb311, 2, none⟩ (.slice Ao244 y843.length co244)) = w246 at n0_ n1_ n2_ n3_ n4_ ⊢
 have HO446 := n0_
 have HO845 := n1_
 have BK310 := n2_
 have BK311 := n3_
 have HB := n4_
 clear n0_ n1_ n2_ n3_ n4_
 replace HO446 := am_ (Kd.R_drew HO446.out)
 replace HO845 := am_ (Kd.R_drew HO845.out)
 replace BK310 := am_ (blk_drew BK310.out)
 replace BK311 := am_ (blk_drew BK311.out)
 replace HB := am_ (below_drew1 HB.out)
 refine start_ (n := 10) (S := fun w' => w'.cell? ⟨gb311, 0, none⟩ = some (.int .i64 5) ∧ w'.cell? ⟨gb311, 1, none⟩ = some (.slice Ao126 y444.length co126) ∧ w'.cell? ⟨gb311, 2, none⟩ = some (.slice Ao244 y843.length co244)) (ds := [9]) (bf_ 10 0) (by kernel_rfl) rfl rfl (cz3_ BK311.out) (fun hHeld => ?_); refine with_tabW computusref24_Catalogue.tab15 computusref24_Catalogue.bits15 (fun HT_ HW_ => ?_)
 generalize w246.drew = w247 at HO446 HO845 BK310 BK311 HB hHeld ⊢
 refine pu_ 0 (some 130) (bf_ 10 1) HT_.out ?_
 refine ta_ 1 (some 131) (bf_ 10 3) HT_.out HW_.out hHeld ?_
 refine one_ (i := 2) (N := some 132) (bf_ 10 7) rfl rfl (one_of HT_.out (by kernel_rfl)) (by decide) (fun K hK => ?_)
 refine gs_ Try.func33 #[.int .i64 12, .int .i64 25] ?_
 with_reducible refine (computusref24_fixed.calls 12 25 t846 t847 t848 t849 t850 t851 _ A75.out).mono ?_
 rintro e w248 ⟨rfl, hb⟩
 refine ⟨_, rfl, ?_⟩
 replace HO446 := rw_ HO446 hb
 replace HO845 := rw_ HO845 hb
 replace BK310 := bw_ BK310 hb
 replace BK311 := bw_ BK311 hb
 replace HB := bt_ hb
 (try clear hb)
 (try clear hb2)
 (try clear hk)
 (try clear hi)
 refine hK.out _ _ (by first | exact (cz3_ BK311.out) | exact hHeld) (fun hHeld => ?_)
 clear hK K
 refine norm_ (a' := ?_) ?_ ?_
 rotate_left
 ·show Act.put _ (some 132) _ = _
  simp only [Act.put, sA_, sZ_, sS_, i64_w, i32_w]
  rfl
 refine one_ (i := 3) (N := some 133) (bf_ 10 15) rfl rfl (one_of HT_.out (by kernel_rfl)) (by decide) (fun K hK => ?_)
 refine gs_ Try.func34 #[.string (⟨#[110, 97, 116, 105, 118, 105, 116, 121]⟩ : ByteArray), .int .i64 1, .int .i64 2, .agg #[.int .i64 t846, .int .i64 t847, .int .i64 t848, .int .i64 t849, .int .i64 t850, .int .i64 t851]] ?_
 with_reducible refine (computusref24_feast.calls (⟨#[110, 97, 116, 105, 118, 105, 116, 121]⟩ : ByteArray) 1 2 t846 t847 t848 t849 t850 t851 t852 t853 t854 t855 t856 t857 t858 t859 t860 _ A76.out).mono ?_
 rintro e w249 ⟨rfl, hb⟩
 refine ⟨_, rfl, ?_⟩
 replace HO446 := rw_ HO446 hb
 replace HO845 := rw_ HO845 hb
 replace BK310 := bw_ BK310 hb
 replace BK311 := bw_ BK311 hb
 replace HB := bt_ hb
 (try clear hb)
 (try clear hb2)
 (try clear hk)
 (try clear hi)
 refine hK.out _ _ (by first | exact (cz3_ BK311.out) | exact hHeld) (fun hHeld => ?_)
 clear hK K
 refine norm_ (a' := ?_) ?_ ?_
 rotate_left
 ·show Act.put _ (some 133) _ = _
  simp only [Act.put, sA_, sZ_, sS_, i64_w, i32_w]
  rfl
 refine one_ (i := 4) (N := some 134) (bf_ 10 31) rfl rfl (one_of HT_.out (by kernel_rfl)) (by decide) (fun K hK => ?_)
 refine gs_ Try.func33 #[.int .i64 12, .int .i64 26] ?_
 with_reducible refine (computusref24_fixed.calls 12 26 t861 t862 t863 t864 t865 t866 _ A77.out).mono ?_
 rintro e w250 ⟨rfl, hb⟩
 refine ⟨_, rfl, ?_⟩
 replace HO446 := rw_ HO446 hb
 replace HO845 := rw_ HO845 hb
 replace BK310 := bw_ BK310 hb
 replace BK311 := bw_ BK311 hb
 replace HB := bt_ hb
 (try clear hb)
 (try clear hb2)
 (try clear hk)
 (try clear hi)
 refine hK.out _ _ (by first | exact (cz3_ BK311.out) | exact hHeld) (fun hHeld => ?_)
 clear hK K
 refine norm_ (a' := ?_) ?_ ?_
 rotate_left
 ·show Act.put _ (some 134) _ = _
  simp only [Act.put, sA_, sZ_, sS_, i64_w, i32_w]
  rfl
 refine one_ (i := 5) (N := some 135) (bf_ 10 63) rfl rfl (one_of HT_.out (by kernel_rfl)) (by decide) (fun K hK => ?_)
 refine gs_ Try.func34 #[.string (⟨#[115, 116, 101, 112, 104, 101, 110]⟩ : ByteArray), .int .i64 4, .int .i64 2, .agg #[.int .i64 t861, .int .i64 t862, .int .i64 t863, .int .i64 t864, .int .i64 t865, .int .i64 t866]] ?_
 with_reducible refine (computusref24_feast.calls (⟨#[115, 116, 101, 112, 104, 101, 110]⟩ : ByteArray) 4 2 t861 t862 t863 t864 t865 t866 t867 t868 t869 t870 t871 t872 t873 t874 t875 _ A78.out).mono ?_
 rintro e w251 ⟨rfl, hb⟩
 refine ⟨_, rfl, ?_⟩
 replace HO446 := rw_ HO446 hb
 replace HO845 := rw_ HO845 hb
 replace BK310 := bw_ BK310 hb
 replace BK311 := bw_ BK311 hb
 replace HB := bt_ hb
 (try clear hb)
 (try clear hb2)
 (try clear hk)
 (try clear hi)
 refine hK.out _ _ (by first | exact (cz3_ BK311.out) | exact hHeld) (fun hHeld => ?_)
 clear hK K
 refine norm_ (a' := ?_) ?_ ?_
 rotate_left
 ·show Act.put _ (some 135) _ = _
  simp only [Act.put, sA_, sZ_, sS_, i64_w, i32_w]
  rfl
 refine one_ (i := 6) (N := some 136) (bf_ 10 127) rfl rfl (one_of HT_.out (by kernel_rfl)) (by decide) (fun K hK => ?_)
 refine Kd.R_lit_step k35 _ 35 ?hg (N := 136) ?hd (xs := ([(⟨t852, t853, t854, (⟨t855, t856, t857, t858, t859, t860⟩ : S31)⟩ : S35), (⟨t867, t868, t869, (⟨t870, t871, t872, t873, t874, t875⟩ : S31)⟩ : S35)] : List (S35))) (inner := [.string t852, .int .i64 t853, .int .i64 t854, .int .i64 t855, .int .i64 t856, .int .i64 t857, .int .i64 t858, .int .i64 t859, .int .i64 t860, .string t867, .int .i64 t868, .int .i64 t869, .int .i64 t870, .int .i64 t871, .int .i64 t872, .int .i64 t873, .int .i64 t874, .int .i64 t875]) (ok := fun _ => True) (okp := fun _ => True) ?hr ?hp (fun _ hk => hk) trivial (Below.refl _ _) (Nat.le_refl _) (by simp) ?_; (case hd => rfl); (case hg => rfl); (case hr => first | (go_simp; done) | (go_simp; rfl)); (case hp => exact (Reps.c9 (show Kd.M k35 _ _ _ (⟨t852, t853, t854, (⟨t855, t856, t857, t858, t859, t860⟩ : S31)⟩ : S35) [.string t852, .int .i64 t853, .int .i64 t854, .int .i64 t855, .int .i64 t856, .int .i64 t857, .int .i64 t858, .int .i64 t859, .int .i64 t860] from (k35_mkM _ _ _ (⟨t852, t853, t854, (⟨t855, t856, t857, t858, t859, t860⟩ : S31)⟩ : S35) )) (Reps.c9 (show Kd.M k35 _ _ _ (⟨t867, t868, t869, (⟨t870, t871, t872, t873, t874, t875⟩ : S31)⟩ : S35) [.string t867, .int .i64 t868, .int .i64 t869, .int .i64 t870, .int .i64 t871, .int .i64 t872, .int .i64 t873, .int .i64 t874, .int .i64 t875] from (k35_mkM _ _ _ (⟨t867, t868, t869, (⟨t870, t871, t872, t873, t874, t875⟩ : S31)⟩ : S35) )) (Reps.none _ _))))
 intro v877 w252 ho253 hb hg_ hnew_
 clear hg_ hnew_
 (first | rw [← Ny876.out] at ho253 | (simp only [Int.reduceToNat] at ho253; rw [← Ny876.out] at ho253))
 replace HO446 := rw_ HO446 hb
 have HO878 := am_ (Kd.R_lower (Kd.R_new' ho253 (Kd.R_lt (rk_ HO845.out))) bz_)
 replace HO845 := am_ (Kd.R_elder' (rk_ HO845.out) (Kd.R_base ho253) hb)
 replace BK310 := bw_ BK310 hb
 replace BK311 := bw_ BK311 hb
 replace HB := bt_ hb
 clear hb ho253
 obtain ⟨Ao255, co255, eo255⟩ := Kd.R_slice HO878.out
 (first | subst eo255 | (injection eo255 with f1_ f2_ f3_; have f4_ := f1_.symm; have f5_ := f3_.symm; clear f1_ f2_ f3_; subst f4_; subst f5_))
 refine hK.out _ _ (by first | exact (cz3_ BK311.out) | exact hHeld) (fun hHeld => ?_)
 clear hK K
 refine norm_ (a' := ?_) ?_ ?_
 rotate_left
 ·show Act.put _ (some 136) _ = _
  simp only [Act.put, sA_, sZ_, sS_, i64_w, i32_w]
  rfl
 refine one_ (i := 7) (N := some 137) (bf_ 10 255) rfl rfl (one_of HT_.out (by kernel_rfl)) (by decide) (fun K hK => ?_)
 refine Kd.R_append_rows_step k35 (w0 := w) w.heap.size (by rfl) (.tmp 131) (.tmp 136) 24 35 (.agg #[(.string ⟨#[]⟩), (.int .i64 0), (.int .i64 0), (.int .i64 0), (.int .i64 0), (.int .i64 0), (.int .i64 0), (.int .i64 0), (.int .i64 0)]) 80 rfl Try.underlying24 info35 rfl (by decide) (by omega) (.slice Ao244 y843.length co244) y843 y876 _ _ _ (fun _ => True) (fun _ => False) rfl rfl ?aO ?aR (fun _ _ h => h) (fun _ h => h.elim) ?aF ?aB ?aS ?aL ?_
 (case aR => exact ck_ (Kd.R_reads' HO878.out).2.2)
 (case aB => exact bh_)
 (case aF => exact (fun _ _ => trivial))
 (case aO => exact (by (with_reducible repeat (first | apply Kd.R_alloc | apply Kd.R_drewN | apply Kd.R_drew)); exact Kd.R_mono HO845.out (fun _ hk => trivial)))
 (case aS => exact bz_)
 (case aL => have := LMc79.out; omega)
 intro v880 w254 ho hb hg hat
 rw [← Ny879.out] at ho
 have n0_ := am_ (blk_grown (bk_ BK310.out) hg (Kd.R_ne HO845.out BK310.out (by decide)))
 have n1_ := am_ (blk_grown (bk_ BK311.out) hg (Kd.R_ne HO845.out BK311.out (by decide)))
 have n2_ := am_ (Kd.R_over' (rk_ HO446.out) (Kd.R_typed (rk_ HO845.out)) (by decide) hg)
 have n3_ := am_ (hb)
 have n4_ := am_ (ho)
 clear BK310
 clear BK311
 clear HO446
 clear HB
 clear HO845
 clear HO878
 have BK310 := n0_
 have BK311 := n1_
 have HO446 := n2_
 have HB := n3_
 have HO881 := n4_
 clear n0_ n1_ n2_ n3_ n4_
 clear ho hb hg hat
 obtain ⟨Ao256, co256, eo256⟩ := Kd.R_slice HO881.out
 (first | subst eo256 | (injection eo256 with f1_ f2_ f3_; have f4_ := f1_.symm; have f5_ := f3_.symm; clear f1_ f2_ f3_; subst f4_; subst f5_))
 refine hK.out _ _ (by first | exact (cz3_ BK311.out) | exact hHeld) (fun hHeld => ?_)
 clear hK K
 refine norm_ (a' := ?_) ?_ ?_
 rotate_left
 ·show Act.put _ (some 137) _ = _
  simp only [Act.put, sA_, sZ_, sS_, i64_w, i32_w]
  rfl
 refine pu_ 8 (some 138) (bf_ 10 511) HT_.out ?_
 refine last_ (i := 9) (N := none) (bf_ 10 1023) rfl rfl (one_of HT_.out (by kernel_rfl)) (by decide) (fun K hK => ?_)
 have hs257 : w254.cell? ⟨gb311, 2, none⟩ = some (.slice Ao244 y843.length co244) := (blk_cell BK311.out 2).trans rfl
 have hfs257 := blk_frozen BK311.out 2
 have hns257_0 := NB310_311.out
 have hms257_0 := NB311_310.out
 refine skip_ (w1 := ?_) (by rfl) rfl ?_ ?_
 rotate_left
 ·go_simp
  rfl
 refine hK.out _ _ ?_
 clear hK K
 refine done_ (done_of HT_.out (by kernel_rfl)) ?_
 obtain ⟨hcz258_0, hcz258_1, hcz258_2⟩ := cz3_ BK311.out
 obtain ⟨hfz258_0, hfz258_1, hfz258_2⟩ := fz3_ BK311.out
 obtain ⟨hcz259_0, hcz259_1, hcz259_2⟩ := cz3_ BK310.out
 obtain ⟨hfz259_0, hfz259_1, hfz259_2⟩ := fz3_ BK310.out
 try go_wp2
 refine bodyPost_ret (results_cell_row rfl _ _ gb310 26 #[.int .i64 5, .slice Ao126 y444.length co126, .slice Ao256 y879.length co256] (0, 0) _ rfl (by refine bp_ ?_; refine blk_put (cs := #[.int .i64 5, .slice Ao126 y444.length co126, .slice none 0 0]) ?_ 2 _ rfl; refine bp_ ?_; refine blk_put (cs := #[.int .i64 5, .slice none 0 0, .slice none 0 0]) ?_ 1 _ rfl; refine bp_ ?_; refine blk_put (cs := #[.int .i64 0, .slice none 0 0, .slice none 0 0]) ?_ 0 _ rfl; refine bp_ ?_; refine blk_far ?_ NB310_311.out _; exact bk_ BK310.out) Try.underlying26 rfl (by kernel_rfl)) rfl ?_
 exact ⟨_, _, by first | rfl | (simp [errW_none, errW_some] <;> rfl) | (simp [*, errW_none, errW_some] <;> rfl), by (with_reducible repeat (first | apply Kd.R_alloc | apply Kd.R_drewN | apply Kd.R_drew)); exact Kd.R_mono (Kd.R_far (p := ⟨gb310, 2, none⟩) (Kd.R_far (p := ⟨gb310, 1, none⟩) (Kd.R_far (p := ⟨gb310, 0, none⟩) (Kd.R_far (p := ⟨gb311, 2, none⟩) (Kd.R_types (Kd.R_types HO446.out BK311.out (by decide)) BK310.out (by decide)) (fun _ hk => hk.1.2) (.slice Ao256 y879.length co256)) (fun _ hk => hk.2) (.int .i64 5)) (fun _ hk => hk.2) (.slice Ao126 y444.length co126)) (fun _ hk => hk.2) (.slice Ao256 y879.length co256)) (fun _ hk => trivial), by (with_reducible repeat (first | apply Kd.R_alloc | apply Kd.R_drewN | apply Kd.R_drew)); exact Kd.R_mono (Kd.R_far (p := ⟨gb310, 2, none⟩) (Kd.R_far (p := ⟨gb310, 1, none⟩) (Kd.R_far (p := ⟨gb310, 0, none⟩) (Kd.R_far (p := ⟨gb311, 2, none⟩) (Kd.R_types (Kd.R_types HO881.out BK311.out (by decide)) BK310.out (by decide)) (fun _ hk => hk.1.2) (.slice Ao256 y879.length co256)) (fun _ hk => hk.2) (.int .i64 5)) (fun _ hk => hk.2) (.slice Ao126 y444.length co126)) (fun _ hk => hk.2) (.slice Ao256 y879.length co256)) (fun _ hk => trivial), bh_⟩

end Go.Proofs.Ytkpicinbckedoaa.Q
