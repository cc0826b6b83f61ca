/-
  The evaluator at this seat. (Conditions: none beyond what each theorem asks.)
-/
import Derived.Test.YtfddpaljmihinaaGreatDoorRows
import Derived.Test.YtfddpaljmihinaaGreatDoorEvC
import Derived.Shelf.Strings.Search2
import Derived.Shelf.Strings.Repeat
import Derived.Ground.NamesProg
import Derived.KernelRfl
import Derived.Test.YtfddpaljmihinaaGreatDoorEvD
/-! ## EvTab -/
namespace Go.Proofs.YtfddpaljmihinaaGreatDoor
namespace Ev
open Go
set_option maxRecDepth 100000
noncomputable def tyAt (n : Nat) : TypeInfo := Tryz.prog.types.getD n default

noncomputable def ftree : Tree Func := (.node (.node (.node (.node (.node (.node (.node (.node (.node .leaf (some Tryz.f255) .leaf) (some Tryz.f127) .leaf) (some Tryz.f63) (.node .leaf (some Tryz.f191) .leaf)) (some Tryz.f31) (.node (.node .leaf (some Tryz.f159) .leaf) (some Tryz.f95) (.node .leaf (some Tryz.f223) .leaf))) (some Tryz.f15) (.node (.node (.node .leaf (some Tryz.f143) .leaf) (some Tryz.f79) (.node .leaf (some Tryz.f207) .leaf)) (some Tryz.f47) (.node (.node .leaf (some Tryz.f175) .leaf) (some Tryz.f111) (.node .leaf (some Tryz.f239) .leaf)))) (some Tryz.f7) (.node (.node (.node (.node .leaf (some Tryz.f135) .leaf) (some Tryz.f71) (.node .leaf (some Tryz.f199) .leaf)) (some Tryz.f39) (.node (.node .leaf (some Tryz.f167) .leaf) (some Tryz.f103) (.node .leaf (some Tryz.f231) .leaf))) (some Tryz.f23) (.node (.node (.node .leaf (some Tryz.f151) .leaf) (some Tryz.f87) (.node .leaf (some Tryz.f215) .leaf)) (some Tryz.f55) (.node (.node .leaf (some Tryz.f183) .leaf) (some Tryz.f119) (.node .leaf (some Tryz.f247) .leaf))))) (some Tryz.f3) (.node (.node (.node (.node (.node (.node .leaf (some Tryz.f259) .leaf) (some Tryz.f131) .leaf) (some Tryz.f67) (.node .leaf (some Tryz.f195) .leaf)) (some Tryz.f35) (.node (.node .leaf (some Tryz.f163) .leaf) (some Tryz.f99) (.node .leaf (some Tryz.f227) .leaf))) (some Tryz.f19) (.node (.node (.node .leaf (some Tryz.f147) .leaf) (some Tryz.f83) (.node .leaf (some Tryz.f211) .leaf)) (some Tryz.f51) (.node (.node .leaf (some Tryz.f179) .leaf) (some Tryz.f115) (.node .leaf (some Tryz.f243) .leaf)))) (some Tryz.f11) (.node (.node (.node (.node .leaf (some Tryz.f139) .leaf) (some Tryz.f75) (.node .leaf (some Tryz.f203) .leaf)) (some Tryz.f43) (.node (.node .leaf (some Tryz.f171) .leaf) (some Tryz.f107) (.node .leaf (some Tryz.f235) .leaf))) (some Tryz.f27) (.node (.node (.node .leaf (some Tryz.f155) .leaf) (some Tryz.f91) (.node .leaf (some Tryz.f219) .leaf)) (some Tryz.f59) (.node (.node .leaf (some Tryz.f187) .leaf) (some Tryz.f123) (.node .leaf (some Tryz.f251) .leaf)))))) (some Tryz.f1) (.node (.node (.node (.node (.node (.node (.node .leaf (some Tryz.f257) .leaf) (some Tryz.f129) .leaf) (some Tryz.f65) (.node .leaf (some Tryz.f193) .leaf)) (some Tryz.f33) (.node (.node .leaf (some Tryz.f161) .leaf) (some Tryz.f97) (.node .leaf (some Tryz.f225) .leaf))) (some Tryz.f17) (.node (.node (.node .leaf (some Tryz.f145) .leaf) (some Tryz.f81) (.node .leaf (some Tryz.f209) .leaf)) (some Tryz.f49) (.node (.node .leaf (some Tryz.f177) .leaf) (some Tryz.f113) (.node .leaf (some Tryz.f241) .leaf)))) (some Tryz.f9) (.node (.node (.node (.node .leaf (some Tryz.f137) .leaf) (some Tryz.f73) (.node .leaf (some Tryz.f201) .leaf)) (some Tryz.f41) (.node (.node .leaf (some Tryz.f169) .leaf) (some Tryz.f105) (.node .leaf (some Tryz.f233) .leaf))) (some Tryz.f25) (.node (.node (.node .leaf (some Tryz.f153) .leaf) (some Tryz.f89) (.node .leaf (some Tryz.f217) .leaf)) (some Tryz.f57) (.node (.node .leaf (some Tryz.f185) .leaf) (some Tryz.f121) (.node .leaf (some Tryz.f249) .leaf))))) (some Tryz.f5) (.node (.node (.node (.node (.node (.node .leaf (some Tryz.f261) .leaf) (some Tryz.f133) .leaf) (some Tryz.f69) (.node .leaf (some Tryz.f197) .leaf)) (some Tryz.f37) (.node (.node .leaf (some Tryz.f165) .leaf) (some Tryz.f101) (.node .leaf (some Tryz.f229) .leaf))) (some Tryz.f21) (.node (.node (.node .leaf (some Tryz.f149) .leaf) (some Tryz.f85) (.node .leaf (some Tryz.f213) .leaf)) (some Tryz.f53) (.node (.node .leaf (some Tryz.f181) .leaf) (some Tryz.f117) (.node .leaf (some Tryz.f245) .leaf)))) (some Tryz.f13) (.node (.node (.node (.node .leaf (some Tryz.f141) .leaf) (some Tryz.f77) (.node .leaf (some Tryz.f205) .leaf)) (some Tryz.f45) (.node (.node .leaf (some Tryz.f173) .leaf) (some Tryz.f109) (.node .leaf (some Tryz.f237) .leaf))) (some Tryz.f29) (.node (.node (.node .leaf (some Tryz.f157) .leaf) (some Tryz.f93) (.node .leaf (some Tryz.f221) .leaf)) (some Tryz.f61) (.node (.node .leaf (some Tryz.f189) .leaf) (some Tryz.f125) (.node .leaf (some Tryz.f253) .leaf))))))) (some Tryz.f0) (.node (.node (.node (.node (.node (.node (.node (.node .leaf (some Tryz.f256) .leaf) (some Tryz.f128) .leaf) (some Tryz.f64) (.node .leaf (some Tryz.f192) .leaf)) (some Tryz.f32) (.node (.node .leaf (some Tryz.f160) .leaf) (some Tryz.f96) (.node .leaf (some Tryz.f224) .leaf))) (some Tryz.f16) (.node (.node (.node .leaf (some Tryz.f144) .leaf) (some Tryz.f80) (.node .leaf (some Tryz.f208) .leaf)) (some Tryz.f48) (.node (.node .leaf (some Tryz.f176) .leaf) (some Tryz.f112) (.node .leaf (some Tryz.f240) .leaf)))) (some Tryz.f8) (.node (.node (.node (.node .leaf (some Tryz.f136) .leaf) (some Tryz.f72) (.node .leaf (some Tryz.f200) .leaf)) (some Tryz.f40) (.node (.node .leaf (some Tryz.f168) .leaf) (some Tryz.f104) (.node .leaf (some Tryz.f232) .leaf))) (some Tryz.f24) (.node (.node (.node .leaf (some Tryz.f152) .leaf) (some Tryz.f88) (.node .leaf (some Tryz.f216) .leaf)) (some Tryz.f56) (.node (.node .leaf (some Tryz.f184) .leaf) (some Tryz.f120) (.node .leaf (some Tryz.f248) .leaf))))) (some Tryz.f4) (.node (.node (.node (.node (.node (.node .leaf (some Tryz.f260) .leaf) (some Tryz.f132) .leaf) (some Tryz.f68) (.node .leaf (some Tryz.f196) .leaf)) (some Tryz.f36) (.node (.node .leaf (some Tryz.f164) .leaf) (some Tryz.f100) (.node .leaf (some Tryz.f228) .leaf))) (some Tryz.f20) (.node (.node (.node .leaf (some Tryz.f148) .leaf) (some Tryz.f84) (.node .leaf (some Tryz.f212) .leaf)) (some Tryz.f52) (.node (.node .leaf (some Tryz.f180) .leaf) (some Tryz.f116) (.node .leaf (some Tryz.f244) .leaf)))) (some Tryz.f12) (.node (.node (.node (.node .leaf (some Tryz.f140) .leaf) (some Tryz.f76) (.node .leaf (some Tryz.f204) .leaf)) (some Tryz.f44) (.node (.node .leaf (some Tryz.f172) .leaf) (some Tryz.f108) (.node .leaf (some Tryz.f236) .leaf))) (some Tryz.f28) (.node (.node (.node .leaf (some Tryz.f156) .leaf) (some Tryz.f92) (.node .leaf (some Tryz.f220) .leaf)) (some Tryz.f60) (.node (.node .leaf (some Tryz.f188) .leaf) (some Tryz.f124) (.node .leaf (some Tryz.f252) .leaf)))))) (some Tryz.f2) (.node (.node (.node (.node (.node (.node (.node .leaf (some Tryz.f258) .leaf) (some Tryz.f130) .leaf) (some Tryz.f66) (.node .leaf (some Tryz.f194) .leaf)) (some Tryz.f34) (.node (.node .leaf (some Tryz.f162) .leaf) (some Tryz.f98) (.node .leaf (some Tryz.f226) .leaf))) (some Tryz.f18) (.node (.node (.node .leaf (some Tryz.f146) .leaf) (some Tryz.f82) (.node .leaf (some Tryz.f210) .leaf)) (some Tryz.f50) (.node (.node .leaf (some Tryz.f178) .leaf) (some Tryz.f114) (.node .leaf (some Tryz.f242) .leaf)))) (some Tryz.f10) (.node (.node (.node (.node .leaf (some Tryz.f138) .leaf) (some Tryz.f74) (.node .leaf (some Tryz.f202) .leaf)) (some Tryz.f42) (.node (.node .leaf (some Tryz.f170) .leaf) (some Tryz.f106) (.node .leaf (some Tryz.f234) .leaf))) (some Tryz.f26) (.node (.node (.node .leaf (some Tryz.f154) .leaf) (some Tryz.f90) (.node .leaf (some Tryz.f218) .leaf)) (some Tryz.f58) (.node (.node .leaf (some Tryz.f186) .leaf) (some Tryz.f122) (.node .leaf (some Tryz.f250) .leaf))))) (some Tryz.f6) (.node (.node (.node (.node (.node (.node .leaf (some Tryz.f262) .leaf) (some Tryz.f134) .leaf) (some Tryz.f70) (.node .leaf (some Tryz.f198) .leaf)) (some Tryz.f38) (.node (.node .leaf (some Tryz.f166) .leaf) (some Tryz.f102) (.node .leaf (some Tryz.f230) .leaf))) (some Tryz.f22) (.node (.node (.node .leaf (some Tryz.f150) .leaf) (some Tryz.f86) (.node .leaf (some Tryz.f214) .leaf)) (some Tryz.f54) (.node (.node .leaf (some Tryz.f182) .leaf) (some Tryz.f118) (.node .leaf (some Tryz.f246) .leaf)))) (some Tryz.f14) (.node (.node (.node (.node .leaf (some Tryz.f142) .leaf) (some Tryz.f78) (.node .leaf (some Tryz.f206) .leaf)) (some Tryz.f46) (.node (.node .leaf (some Tryz.f174) .leaf) (some Tryz.f110) (.node .leaf (some Tryz.f238) .leaf))) (some Tryz.f30) (.node (.node (.node .leaf (some Tryz.f158) .leaf) (some Tryz.f94) (.node .leaf (some Tryz.f222) .leaf)) (some Tryz.f62) (.node (.node .leaf (some Tryz.f190) .leaf) (some Tryz.f126) (.node .leaf (some Tryz.f254) .leaf))))))))

noncomputable def itree : Tree TypeInfo := (.node (.node (.node (.node (.node (.node (.node (.node .leaf (some (tyAt 127)) .leaf) (some (tyAt 63)) (.node .leaf (some (tyAt 191)) .leaf)) (some (tyAt 31)) (.node (.node .leaf (some (tyAt 159)) .leaf) (some (tyAt 95)) (.node .leaf (some (tyAt 223)) .leaf))) (some (tyAt 15)) (.node (.node (.node .leaf (some (tyAt 143)) .leaf) (some (tyAt 79)) (.node .leaf (some (tyAt 207)) .leaf)) (some (tyAt 47)) (.node (.node .leaf (some (tyAt 175)) .leaf) (some (tyAt 111)) (.node .leaf (some (tyAt 239)) .leaf)))) (some (tyAt 7)) (.node (.node (.node (.node .leaf (some (tyAt 135)) .leaf) (some (tyAt 71)) (.node .leaf (some (tyAt 199)) .leaf)) (some (tyAt 39)) (.node (.node .leaf (some (tyAt 167)) .leaf) (some (tyAt 103)) (.node .leaf (some (tyAt 231)) .leaf))) (some (tyAt 23)) (.node (.node (.node .leaf (some (tyAt 151)) .leaf) (some (tyAt 87)) (.node .leaf (some (tyAt 215)) .leaf)) (some (tyAt 55)) (.node (.node .leaf (some (tyAt 183)) .leaf) (some (tyAt 119)) .leaf)))) (some (tyAt 3)) (.node (.node (.node (.node (.node .leaf (some (tyAt 131)) .leaf) (some (tyAt 67)) (.node .leaf (some (tyAt 195)) .leaf)) (some (tyAt 35)) (.node (.node .leaf (some (tyAt 163)) .leaf) (some (tyAt 99)) (.node .leaf (some (tyAt 227)) .leaf))) (some (tyAt 19)) (.node (.node (.node .leaf (some (tyAt 147)) .leaf) (some (tyAt 83)) (.node .leaf (some (tyAt 211)) .leaf)) (some (tyAt 51)) (.node (.node .leaf (some (tyAt 179)) .leaf) (some (tyAt 115)) .leaf))) (some (tyAt 11)) (.node (.node (.node (.node .leaf (some (tyAt 139)) .leaf) (some (tyAt 75)) (.node .leaf (some (tyAt 203)) .leaf)) (some (tyAt 43)) (.node (.node .leaf (some (tyAt 171)) .leaf) (some (tyAt 107)) (.node .leaf (some (tyAt 235)) .leaf))) (some (tyAt 27)) (.node (.node (.node .leaf (some (tyAt 155)) .leaf) (some (tyAt 91)) (.node .leaf (some (tyAt 219)) .leaf)) (some (tyAt 59)) (.node (.node .leaf (some (tyAt 187)) .leaf) (some (tyAt 123)) .leaf))))) (some (tyAt 1)) (.node (.node (.node (.node (.node (.node .leaf (some (tyAt 129)) .leaf) (some (tyAt 65)) (.node .leaf (some (tyAt 193)) .leaf)) (some (tyAt 33)) (.node (.node .leaf (some (tyAt 161)) .leaf) (some (tyAt 97)) (.node .leaf (some (tyAt 225)) .leaf))) (some (tyAt 17)) (.node (.node (.node .leaf (some (tyAt 145)) .leaf) (some (tyAt 81)) (.node .leaf (some (tyAt 209)) .leaf)) (some (tyAt 49)) (.node (.node .leaf (some (tyAt 177)) .leaf) (some (tyAt 113)) (.node .leaf (some (tyAt 241)) .leaf)))) (some (tyAt 9)) (.node (.node (.node (.node .leaf (some (tyAt 137)) .leaf) (some (tyAt 73)) (.node .leaf (some (tyAt 201)) .leaf)) (some (tyAt 41)) (.node (.node .leaf (some (tyAt 169)) .leaf) (some (tyAt 105)) (.node .leaf (some (tyAt 233)) .leaf))) (some (tyAt 25)) (.node (.node (.node .leaf (some (tyAt 153)) .leaf) (some (tyAt 89)) (.node .leaf (some (tyAt 217)) .leaf)) (some (tyAt 57)) (.node (.node .leaf (some (tyAt 185)) .leaf) (some (tyAt 121)) .leaf)))) (some (tyAt 5)) (.node (.node (.node (.node (.node .leaf (some (tyAt 133)) .leaf) (some (tyAt 69)) (.node .leaf (some (tyAt 197)) .leaf)) (some (tyAt 37)) (.node (.node .leaf (some (tyAt 165)) .leaf) (some (tyAt 101)) (.node .leaf (some (tyAt 229)) .leaf))) (some (tyAt 21)) (.node (.node (.node .leaf (some (tyAt 149)) .leaf) (some (tyAt 85)) (.node .leaf (some (tyAt 213)) .leaf)) (some (tyAt 53)) (.node (.node .leaf (some (tyAt 181)) .leaf) (some (tyAt 117)) .leaf))) (some (tyAt 13)) (.node (.node (.node (.node .leaf (some (tyAt 141)) .leaf) (some (tyAt 77)) (.node .leaf (some (tyAt 205)) .leaf)) (some (tyAt 45)) (.node (.node .leaf (some (tyAt 173)) .leaf) (some (tyAt 109)) (.node .leaf (some (tyAt 237)) .leaf))) (some (tyAt 29)) (.node (.node (.node .leaf (some (tyAt 157)) .leaf) (some (tyAt 93)) (.node .leaf (some (tyAt 221)) .leaf)) (some (tyAt 61)) (.node (.node .leaf (some (tyAt 189)) .leaf) (some (tyAt 125)) .leaf)))))) (some (tyAt 0)) (.node (.node (.node (.node (.node (.node (.node .leaf (some (tyAt 128)) .leaf) (some (tyAt 64)) (.node .leaf (some (tyAt 192)) .leaf)) (some (tyAt 32)) (.node (.node .leaf (some (tyAt 160)) .leaf) (some (tyAt 96)) (.node .leaf (some (tyAt 224)) .leaf))) (some (tyAt 16)) (.node (.node (.node .leaf (some (tyAt 144)) .leaf) (some (tyAt 80)) (.node .leaf (some (tyAt 208)) .leaf)) (some (tyAt 48)) (.node (.node .leaf (some (tyAt 176)) .leaf) (some (tyAt 112)) (.node .leaf (some (tyAt 240)) .leaf)))) (some (tyAt 8)) (.node (.node (.node (.node .leaf (some (tyAt 136)) .leaf) (some (tyAt 72)) (.node .leaf (some (tyAt 200)) .leaf)) (some (tyAt 40)) (.node (.node .leaf (some (tyAt 168)) .leaf) (some (tyAt 104)) (.node .leaf (some (tyAt 232)) .leaf))) (some (tyAt 24)) (.node (.node (.node .leaf (some (tyAt 152)) .leaf) (some (tyAt 88)) (.node .leaf (some (tyAt 216)) .leaf)) (some (tyAt 56)) (.node (.node .leaf (some (tyAt 184)) .leaf) (some (tyAt 120)) .leaf)))) (some (tyAt 4)) (.node (.node (.node (.node (.node .leaf (some (tyAt 132)) .leaf) (some (tyAt 68)) (.node .leaf (some (tyAt 196)) .leaf)) (some (tyAt 36)) (.node (.node .leaf (some (tyAt 164)) .leaf) (some (tyAt 100)) (.node .leaf (some (tyAt 228)) .leaf))) (some (tyAt 20)) (.node (.node (.node .leaf (some (tyAt 148)) .leaf) (some (tyAt 84)) (.node .leaf (some (tyAt 212)) .leaf)) (some (tyAt 52)) (.node (.node .leaf (some (tyAt 180)) .leaf) (some (tyAt 116)) .leaf))) (some (tyAt 12)) (.node (.node (.node (.node .leaf (some (tyAt 140)) .leaf) (some (tyAt 76)) (.node .leaf (some (tyAt 204)) .leaf)) (some (tyAt 44)) (.node (.node .leaf (some (tyAt 172)) .leaf) (some (tyAt 108)) (.node .leaf (some (tyAt 236)) .leaf))) (some (tyAt 28)) (.node (.node (.node .leaf (some (tyAt 156)) .leaf) (some (tyAt 92)) (.node .leaf (some (tyAt 220)) .leaf)) (some (tyAt 60)) (.node (.node .leaf (some (tyAt 188)) .leaf) (some (tyAt 124)) .leaf))))) (some (tyAt 2)) (.node (.node (.node (.node (.node (.node .leaf (some (tyAt 130)) .leaf) (some (tyAt 66)) (.node .leaf (some (tyAt 194)) .leaf)) (some (tyAt 34)) (.node (.node .leaf (some (tyAt 162)) .leaf) (some (tyAt 98)) (.node .leaf (some (tyAt 226)) .leaf))) (some (tyAt 18)) (.node (.node (.node .leaf (some (tyAt 146)) .leaf) (some (tyAt 82)) (.node .leaf (some (tyAt 210)) .leaf)) (some (tyAt 50)) (.node (.node .leaf (some (tyAt 178)) .leaf) (some (tyAt 114)) .leaf))) (some (tyAt 10)) (.node (.node (.node (.node .leaf (some (tyAt 138)) .leaf) (some (tyAt 74)) (.node .leaf (some (tyAt 202)) .leaf)) (some (tyAt 42)) (.node (.node .leaf (some (tyAt 170)) .leaf) (some (tyAt 106)) (.node .leaf (some (tyAt 234)) .leaf))) (some (tyAt 26)) (.node (.node (.node .leaf (some (tyAt 154)) .leaf) (some (tyAt 90)) (.node .leaf (some (tyAt 218)) .leaf)) (some (tyAt 58)) (.node (.node .leaf (some (tyAt 186)) .leaf) (some (tyAt 122)) .leaf)))) (some (tyAt 6)) (.node (.node (.node (.node (.node .leaf (some (tyAt 134)) .leaf) (some (tyAt 70)) (.node .leaf (some (tyAt 198)) .leaf)) (some (tyAt 38)) (.node (.node .leaf (some (tyAt 166)) .leaf) (some (tyAt 102)) (.node .leaf (some (tyAt 230)) .leaf))) (some (tyAt 22)) (.node (.node (.node .leaf (some (tyAt 150)) .leaf) (some (tyAt 86)) (.node .leaf (some (tyAt 214)) .leaf)) (some (tyAt 54)) (.node (.node .leaf (some (tyAt 182)) .leaf) (some (tyAt 118)) .leaf))) (some (tyAt 14)) (.node (.node (.node (.node .leaf (some (tyAt 142)) .leaf) (some (tyAt 78)) (.node .leaf (some (tyAt 206)) .leaf)) (some (tyAt 46)) (.node (.node .leaf (some (tyAt 174)) .leaf) (some (tyAt 110)) (.node .leaf (some (tyAt 238)) .leaf))) (some (tyAt 30)) (.node (.node (.node .leaf (some (tyAt 158)) .leaf) (some (tyAt 94)) (.node .leaf (some (tyAt 222)) .leaf)) (some (tyAt 62)) (.node (.node .leaf (some (tyAt 190)) .leaf) (some (tyAt 126)) .leaf)))))))

noncomputable def flist : List Func := [Tryz.f0, Tryz.f1, Tryz.f2, Tryz.f3, Tryz.f4, Tryz.f5, Tryz.f6, Tryz.f7, Tryz.f8, Tryz.f9, Tryz.f10, Tryz.f11, Tryz.f12, Tryz.f13, Tryz.f14, Tryz.f15, Tryz.f16, Tryz.f17, Tryz.f18, Tryz.f19, Tryz.f20, Tryz.f21, Tryz.f22, Tryz.f23, Tryz.f24, Tryz.f25, Tryz.f26, Tryz.f27, Tryz.f28, Tryz.f29, Tryz.f30, Tryz.f31, Tryz.f32, Tryz.f33, Tryz.f34, Tryz.f35, Tryz.f36, Tryz.f37, Tryz.f38, Tryz.f39, Tryz.f40, Tryz.f41, Tryz.f42, Tryz.f43, Tryz.f44, Tryz.f45, Tryz.f46, Tryz.f47, Tryz.f48, Tryz.f49, Tryz.f50, Tryz.f51, Tryz.f52, Tryz.f53, Tryz.f54, Tryz.f55, Tryz.f56, Tryz.f57, Tryz.f58, Tryz.f59, Tryz.f60, Tryz.f61, Tryz.f62, Tryz.f63, Tryz.f64, Tryz.f65, Tryz.f66, Tryz.f67, Tryz.f68, Tryz.f69, Tryz.f70, Tryz.f71, Tryz.f72, Tryz.f73, Tryz.f74, Tryz.f75, Tryz.f76, Tryz.f77, Tryz.f78, Tryz.f79, Tryz.f80, Tryz.f81, Tryz.f82, Tryz.f83, Tryz.f84, Tryz.f85, Tryz.f86, Tryz.f87, Tryz.f88, Tryz.f89, Tryz.f90, Tryz.f91, Tryz.f92, Tryz.f93, Tryz.f94, Tryz.f95, Tryz.f96, Tryz.f97, Tryz.f98, Tryz.f99, Tryz.f100, Tryz.f101, Tryz.f102, Tryz.f103, Tryz.f104, Tryz.f105, Tryz.f106, Tryz.f107, Tryz.f108, Tryz.f109, Tryz.f110, Tryz.f111, Tryz.f112, Tryz.f113, Tryz.f114, Tryz.f115, Tryz.f116, Tryz.f117, Tryz.f118, Tryz.f119, Tryz.f120, Tryz.f121, Tryz.f122, Tryz.f123, Tryz.f124, Tryz.f125, Tryz.f126, Tryz.f127, Tryz.f128, Tryz.f129, Tryz.f130, Tryz.f131, Tryz.f132, Tryz.f133, Tryz.f134, Tryz.f135, Tryz.f136, Tryz.f137, Tryz.f138, Tryz.f139, Tryz.f140, Tryz.f141, Tryz.f142, Tryz.f143, Tryz.f144, Tryz.f145, Tryz.f146, Tryz.f147, Tryz.f148, Tryz.f149, Tryz.f150, Tryz.f151, Tryz.f152, Tryz.f153, Tryz.f154, Tryz.f155, Tryz.f156, Tryz.f157, Tryz.f158, Tryz.f159, Tryz.f160, Tryz.f161, Tryz.f162, Tryz.f163, Tryz.f164, Tryz.f165, Tryz.f166, Tryz.f167, Tryz.f168, Tryz.f169, Tryz.f170, Tryz.f171, Tryz.f172, Tryz.f173, Tryz.f174, Tryz.f175, Tryz.f176, Tryz.f177, Tryz.f178, Tryz.f179, Tryz.f180, Tryz.f181, Tryz.f182, Tryz.f183, Tryz.f184, Tryz.f185, Tryz.f186, Tryz.f187, Tryz.f188, Tryz.f189, Tryz.f190, Tryz.f191, Tryz.f192, Tryz.f193, Tryz.f194, Tryz.f195, Tryz.f196, Tryz.f197, Tryz.f198, Tryz.f199, Tryz.f200, Tryz.f201, Tryz.f202, Tryz.f203, Tryz.f204, Tryz.f205, Tryz.f206, Tryz.f207, Tryz.f208, Tryz.f209, Tryz.f210, Tryz.f211, Tryz.f212, Tryz.f213, Tryz.f214, Tryz.f215, Tryz.f216, Tryz.f217, Tryz.f218, Tryz.f219, Tryz.f220, Tryz.f221, Tryz.f222, Tryz.f223, Tryz.f224, Tryz.f225, Tryz.f226, Tryz.f227, Tryz.f228, Tryz.f229, Tryz.f230, Tryz.f231, Tryz.f232, Tryz.f233, Tryz.f234, Tryz.f235, Tryz.f236, Tryz.f237, Tryz.f238, Tryz.f239, Tryz.f240, Tryz.f241, Tryz.f242, Tryz.f243, Tryz.f244, Tryz.f245, Tryz.f246, Tryz.f247, Tryz.f248, Tryz.f249, Tryz.f250, Tryz.f251, Tryz.f252, Tryz.f253, Tryz.f254, Tryz.f255, Tryz.f256, Tryz.f257, Tryz.f258, Tryz.f259, Tryz.f260, Tryz.f261, Tryz.f262]

noncomputable def ilist : List TypeInfo := [(tyAt 0), (tyAt 1), (tyAt 2), (tyAt 3), (tyAt 4), (tyAt 5), (tyAt 6), (tyAt 7), (tyAt 8), (tyAt 9), (tyAt 10), (tyAt 11), (tyAt 12), (tyAt 13), (tyAt 14), (tyAt 15), (tyAt 16), (tyAt 17), (tyAt 18), (tyAt 19), (tyAt 20), (tyAt 21), (tyAt 22), (tyAt 23), (tyAt 24), (tyAt 25), (tyAt 26), (tyAt 27), (tyAt 28), (tyAt 29), (tyAt 30), (tyAt 31), (tyAt 32), (tyAt 33), (tyAt 34), (tyAt 35), (tyAt 36), (tyAt 37), (tyAt 38), (tyAt 39), (tyAt 40), (tyAt 41), (tyAt 42), (tyAt 43), (tyAt 44), (tyAt 45), (tyAt 46), (tyAt 47), (tyAt 48), (tyAt 49), (tyAt 50), (tyAt 51), (tyAt 52), (tyAt 53), (tyAt 54), (tyAt 55), (tyAt 56), (tyAt 57), (tyAt 58), (tyAt 59), (tyAt 60), (tyAt 61), (tyAt 62), (tyAt 63), (tyAt 64), (tyAt 65), (tyAt 66), (tyAt 67), (tyAt 68), (tyAt 69), (tyAt 70), (tyAt 71), (tyAt 72), (tyAt 73), (tyAt 74), (tyAt 75), (tyAt 76), (tyAt 77), (tyAt 78), (tyAt 79), (tyAt 80), (tyAt 81), (tyAt 82), (tyAt 83), (tyAt 84), (tyAt 85), (tyAt 86), (tyAt 87), (tyAt 88), (tyAt 89), (tyAt 90), (tyAt 91), (tyAt 92), (tyAt 93), (tyAt 94), (tyAt 95), (tyAt 96), (tyAt 97), (tyAt 98), (tyAt 99), (tyAt 100), (tyAt 101), (tyAt 102), (tyAt 103), (tyAt 104), (tyAt 105), (tyAt 106), (tyAt 107), (tyAt 108), (tyAt 109), (tyAt 110), (tyAt 111), (tyAt 112), (tyAt 113), (tyAt 114), (tyAt 115), (tyAt 116), (tyAt 117), (tyAt 118), (tyAt 119), (tyAt 120), (tyAt 121), (tyAt 122), (tyAt 123), (tyAt 124), (tyAt 125), (tyAt 126), (tyAt 127), (tyAt 128), (tyAt 129), (tyAt 130), (tyAt 131), (tyAt 132), (tyAt 133), (tyAt 134), (tyAt 135), (tyAt 136), (tyAt 137), (tyAt 138), (tyAt 139), (tyAt 140), (tyAt 141), (tyAt 142), (tyAt 143), (tyAt 144), (tyAt 145), (tyAt 146), (tyAt 147), (tyAt 148), (tyAt 149), (tyAt 150), (tyAt 151), (tyAt 152), (tyAt 153), (tyAt 154), (tyAt 155), (tyAt 156), (tyAt 157), (tyAt 158), (tyAt 159), (tyAt 160), (tyAt 161), (tyAt 162), (tyAt 163), (tyAt 164), (tyAt 165), (tyAt 166), (tyAt 167), (tyAt 168), (tyAt 169), (tyAt 170), (tyAt 171), (tyAt 172), (tyAt 173), (tyAt 174), (tyAt 175), (tyAt 176), (tyAt 177), (tyAt 178), (tyAt 179), (tyAt 180), (tyAt 181), (tyAt 182), (tyAt 183), (tyAt 184), (tyAt 185), (tyAt 186), (tyAt 187), (tyAt 188), (tyAt 189), (tyAt 190), (tyAt 191), (tyAt 192), (tyAt 193), (tyAt 194), (tyAt 195), (tyAt 196), (tyAt 197), (tyAt 198), (tyAt 199), (tyAt 200), (tyAt 201), (tyAt 202), (tyAt 203), (tyAt 204), (tyAt 205), (tyAt 206), (tyAt 207), (tyAt 208), (tyAt 209), (tyAt 210), (tyAt 211), (tyAt 212), (tyAt 213), (tyAt 214), (tyAt 215), (tyAt 216), (tyAt 217), (tyAt 218), (tyAt 219), (tyAt 220), (tyAt 221), (tyAt 222), (tyAt 223), (tyAt 224), (tyAt 225), (tyAt 226), (tyAt 227), (tyAt 228), (tyAt 229), (tyAt 230), (tyAt 231), (tyAt 232), (tyAt 233), (tyAt 234), (tyAt 235), (tyAt 236), (tyAt 237), (tyAt 238), (tyAt 239), (tyAt 240), (tyAt 241)]

theorem ftree_eq : ftree = Tree.ofList flist := by kernel_rfl

theorem itree_eq : itree = Tree.ofList ilist := by kernel_rfl

theorem funcs_eq : Tryz.prog.funcs.toList = flist := by kernel_rfl

theorem ilist_eq : ilist = (List.range 242).map tyAt := by kernel_rfl

theorem types_size : Tryz.prog.types.size = 242 := by kernel_rfl

theorem names_ok : (flist.all fun f => !(f.name == "runtime.NumGoroutine")) = true := by kernel_rfl

/-- Structs that may be compared: of plain fields. -/
def eqList : List Nat := [49]

def eqIn (t : Nat) : List Nat → Bool
  | [] => false
  | x :: r => match Nat.beq t x with | true => true | false => eqIn t r

def eqTypes (t : Nat) : Bool := eqIn t eqList

theorem eqIn_mem {t : Nat} : ∀ {l : List Nat}, eqIn t l = true → t ∈ l := by
  intro l
  induction l with
  | nil => intro h; cases h
  | cons x r ih =>
    intro h
    simp only [eqIn] at h
    split at h
    · rename_i e; rw [Nat.eq_of_beq_eq_true e]; exact List.mem_cons_self
    · exact List.mem_cons_of_mem _ (ih h)

theorem eqs_ok : (eqList.all fun t => !Tryz.prog.stoodInHeld t && !Tryz.prog.eqGuardType Tryz.prog.depth t && (Tryz.prog.fieldsOf t).toList.all fun f => f.name != "_") = true := by kernel_rfl

noncomputable def tab (spec : Nat → Option (List AVal → AMem → Out AVal)) (glob : Nat → Bool) : Tab := ⟨Tryz.prog, glob, fun f => ftree.get f, fun t => itree.get t, spec, eqTypes⟩

theorem tab_ok (spec : Nat → Option (List AVal → AMem → Out AVal)) (glob : Nat → Bool) : TabOk (tab spec glob) Tryz.prog where
  prog := rfl
  fn := by
    intro f x h
    have h1 : flist[f]? = some x := by
      have := h
      simp only [tab, ftree_eq, Tree.get_ofList] at this
      exact this
    refine ⟨by rw [← Array.getElem?_toList, funcs_eq]; exact h1, ?_⟩
    have := List.all_eq_true.1 names_ok x (List.mem_of_getElem? h1)
    simpa using this
  info := by
    intro t i h
    have h1 : ilist[t]? = some i := by
      have := h
      simp only [tab, itree_eq, Tree.get_ofList] at this
      exact this
    rw [ilist_eq, List.getElem?_map] at h1
    have ht : t < 242 := by
      rcases Nat.lt_or_ge t 242 with c | c
      · exact c
      · rw [List.getElem?_eq_none (by simpa using c)] at h1; cases h1
    rw [List.getElem?_range ht] at h1
    cases h1
    have hs : t < Tryz.prog.types.size := by rw [types_size]; exact ht
    show Tables.info? _ t = some (tyAt t)
    unfold Tables.info?
    rw [if_pos hs, tyAt, Array.getD_eq_getD_getElem?, Array.getElem?_eq_getElem hs]
    rfl
  eqs := by
    intro t h
    have := List.all_eq_true.1 eqs_ok t (eqIn_mem h)
    simpa [and_assoc] using this

end Ev
end Go.Proofs.YtfddpaljmihinaaGreatDoor

/-! ## EvShelf -/
namespace Go.Proofs
open Go.Shelf Go.RowKit

def Tryz.evLays219_ren : Go.Shelf.Ren := ⟨fun | 219 => 92 | 217 => 146 | 225 => 147 | 224 => 148 | 267 => 149 | 266 => 186 | 314 => 187 | n => n, fun | 9 => 9 | 3 => 3 | 4 => 4 | 5 => 5 | 46 => 121 | 146 => 178 | 51 => 177 | n => n, fun | 1 => 0 | n => n⟩

theorem Tryz.evLays219 : Go.Proofs.Lays.n219 Tryz.prog Tryz.evLays219_ren := {
  mixed := by kernel_rfl
  f217 := Tryz.func146.trans (congrArg some (by kernel_rfl))
  f219 := Tryz.func92.trans (congrArg some (by kernel_rfl))
  f224 := Tryz.func148.trans (congrArg some (by kernel_rfl))
  f225 := Tryz.func147.trans (congrArg some (by kernel_rfl))
  f266 := Tryz.func186.trans (congrArg some (by kernel_rfl))
  f267 := Tryz.func149.trans (congrArg some (by kernel_rfl))
  f314 := Tryz.func187.trans (congrArg some (by kernel_rfl))
  t3 := Tryz.underlying3
  a3 := Tryz.isAgg3
  z3 := Tryz.sizeOf3
  v3 := Tryz.zeroValue3
  t4 := Tryz.underlying4
  a4 := Tryz.isAgg4
  z4 := Tryz.sizeOf4
  v4 := Tryz.zeroValue4
  t5 := Tryz.underlying5
  a5 := Tryz.isAgg5
  z5 := Tryz.sizeOf5
  v5 := Tryz.zeroValue5
  t9 := Tryz.underlying9
  a9 := Tryz.isAgg9
  z9 := Tryz.sizeOf9
  v9 := Tryz.zeroValue9
  t46 := Tryz.underlying121
  a46 := Tryz.isAgg121
  z46 := Tryz.sizeOf121
  v46 := Tryz.zeroValue121
  t51 := Tryz.underlying177
  a51 := Tryz.isAgg177
  z51 := Tryz.sizeOf177
  v51 := Tryz.zeroValue177
  t146 := Tryz.underlying178
  a146 := Tryz.isAgg178
  z146 := Tryz.sizeOf178
  v146 := Tryz.zeroValue178
  g1 := by kernel_rfl }

def Tryz.evLays105_ren : Go.Shelf.Ren := ⟨fun | 105 => 66 | 212 => 110 | 99 => 31 | 165 => 111 | 166 => 112 | 170 => 113 | 169 => 114 | 263 => 162 | 264 => 163 | 206 => 55 | 240 => 164 | 241 => 165 | 276 => 190 | 277 => 191 | n => n, fun | 9 => 9 | 3 => 3 | 4 => 4 | 20 => 20 | 0 => 0 | 46 => 121 | 109 => 130 | 5 => 5 | 72 => 134 | 76 => 136 | 51 => 177 | 146 => 178 | 53 => 118 | 148 => 180 | 70 => 132 | 37 => 34 | 75 => 70 | 127 => 182 | 164 => 192 | 80 => 139 | n => n, fun | n => n⟩

theorem Tryz.evLays105 : Go.Proofs.Lays.n105 Tryz.prog Tryz.evLays105_ren := {
  mixed := by kernel_rfl
  f99 := Tryz.func31.trans (congrArg some (by kernel_rfl))
  f105 := Tryz.func66.trans (congrArg some (by kernel_rfl))
  f165 := Tryz.func111.trans (congrArg some (by kernel_rfl))
  f166 := Tryz.func112.trans (congrArg some (by kernel_rfl))
  f169 := Tryz.func114.trans (congrArg some (by kernel_rfl))
  f170 := Tryz.func113.trans (congrArg some (by kernel_rfl))
  f206 := Tryz.func55.trans (congrArg some (by kernel_rfl))
  f212 := Tryz.func110.trans (congrArg some (by kernel_rfl))
  f240 := Tryz.func164.trans (congrArg some (by kernel_rfl))
  f241 := Tryz.func165.trans (congrArg some (by kernel_rfl))
  f263 := Tryz.func162.trans (congrArg some (by kernel_rfl))
  f264 := Tryz.func163.trans (congrArg some (by kernel_rfl))
  f276 := Tryz.func190.trans (congrArg some (by kernel_rfl))
  f277 := Tryz.func191.trans (congrArg some (by kernel_rfl))
  t0 := Tryz.underlying0
  a0 := Tryz.isAgg0
  z0 := Tryz.sizeOf0
  v0 := Tryz.zeroValue0
  t3 := Tryz.underlying3
  a3 := Tryz.isAgg3
  z3 := Tryz.sizeOf3
  v3 := Tryz.zeroValue3
  t4 := Tryz.underlying4
  a4 := Tryz.isAgg4
  z4 := Tryz.sizeOf4
  v4 := Tryz.zeroValue4
  t5 := Tryz.underlying5
  a5 := Tryz.isAgg5
  z5 := Tryz.sizeOf5
  v5 := Tryz.zeroValue5
  t9 := Tryz.underlying9
  a9 := Tryz.isAgg9
  z9 := Tryz.sizeOf9
  v9 := Tryz.zeroValue9
  t20 := Tryz.underlying20
  a20 := Tryz.isAgg20
  z20 := Tryz.sizeOf20
  v20 := Tryz.zeroValue20
  t37 := Tryz.underlying34
  a37 := Tryz.isAgg34
  z37 := Tryz.sizeOf34
  v37 := Tryz.zeroValue34
  t46 := Tryz.underlying121
  a46 := Tryz.isAgg121
  z46 := Tryz.sizeOf121
  v46 := Tryz.zeroValue121
  t51 := Tryz.underlying177
  a51 := Tryz.isAgg177
  z51 := Tryz.sizeOf177
  v51 := Tryz.zeroValue177
  t53 := Tryz.underlying118
  a53 := Tryz.isAgg118
  z53 := Tryz.sizeOf118
  v53 := Tryz.zeroValue118
  t70 := Tryz.underlying132
  a70 := Tryz.isAgg132
  z70 := Tryz.sizeOf132
  v70 := Tryz.zeroValue132
  t72 := Tryz.underlying134
  a72 := Tryz.isAgg134
  z72 := Tryz.sizeOf134
  v72 := Tryz.zeroValue134
  t75 := Tryz.underlying70
  a75 := Tryz.isAgg70
  z75 := Tryz.sizeOf70
  v75 := Tryz.zeroValue70
  t76 := Tryz.underlying136
  a76 := Tryz.isAgg136
  z76 := Tryz.sizeOf136
  v76 := Tryz.zeroValue136
  t109 := Tryz.underlying130
  a109 := Tryz.isAgg130
  z109 := Tryz.sizeOf130
  v109 := Tryz.zeroValue130
  t127 := Tryz.underlying182
  a127 := Tryz.isAgg182
  z127 := Tryz.sizeOf182
  v127 := Tryz.zeroValue182
  t146 := Tryz.underlying178
  a146 := Tryz.isAgg178
  z146 := Tryz.sizeOf178
  v146 := Tryz.zeroValue178
  t148 := Tryz.underlying180
  a148 := Tryz.isAgg180
  z148 := Tryz.sizeOf180
  v148 := Tryz.zeroValue180
  t164 := Tryz.underlying192
  a164 := Tryz.isAgg192
  z164 := Tryz.sizeOf192
  v164 := Tryz.zeroValue192 }

theorem Tryz.evExtra : Builder.Extra Tryz.prog Tryz.evLays105_ren := {
  sizeBuilder := by kernel_rfl
  liesBuilder := by kernel_rfl
  t5 := Tryz.evLays105.t5
  a5 := Tryz.evLays105.a5
  z5 := Tryz.evLays105.z5
  v5 := Tryz.evLays105.v5
  infoByte := by kernel_rfl
  cellsByte := by kernel_rfl
  sizeByte := by kernel_rfl
  neB5 := by decide }

end Go.Proofs

/-! ## EvSeat -/
namespace Go.Proofs.YtfddpaljmihinaaGreatDoor
namespace Ev
open Go Go.Shelf

noncomputable def specs : Nat → Option (List AVal → AMem → Out AVal)
  | 66 => some specRepeat
  | 92 => some specIndex
  | 186 => some specIndexByte
  | 190 => some specSame
  | 191 => some (specMake 5)
  | 195 => some specCount
  | _ => none

def globs (g : Nat) : Bool := Nat.ble g 7

noncomputable def seat : Tab := tab specs globs

theorem mixed : Tryz.prog.follows .mixedOrders = true := by kernel_rfl

theorem index_ok : CallOk seat Tryz.prog 92 specIndex :=
  specIndex_ok rfl (enters_of Tryz.func92 (by kernel_rfl) rfl) fun s sub m w hs hm => Any.stringslite_Index Tryz.evLays219 s sub m w hs hm

theorem repeat_ok : CallOk seat Tryz.prog 66 specRepeat :=
  specRepeat_ok (enters_of Tryz.func66 (by kernel_rfl) rfl) fun s c w hc hl => Any.strings_Repeat Tryz.evLays105 Tryz.evExtra s c w hc hl

theorem indexByte_ok : CallOk seat Tryz.prog 186 specIndexByte := specIndexByte_ok Tryz.func186 (by kernel_rfl) (by kernel_rfl) (by kernel_rfl) (by kernel_rfl)

theorem same_ok : CallOk seat Tryz.prog 190 specSame := specSame_ok Tryz.func190 (by kernel_rfl) (by kernel_rfl) (by kernel_rfl) (by kernel_rfl)

theorem count_ok : CallOk seat Tryz.prog 195 specCount := specCount_ok Tryz.func195 (by kernel_rfl) (by kernel_rfl) (by kernel_rfl) (by kernel_rfl)

theorem make_ok : CallOk seat Tryz.prog 191 (specMake 5) := specMake_ok (ps := #[3]) (t := 34) (e := 5) (by kernel_rfl) (by kernel_rfl) Tryz.func191 (by kernel_rfl) (by kernel_rfl) (by kernel_rfl) (by kernel_rfl)

theorem specs_ok : ∀ f F, seat.spec f = some F → CallOk seat Tryz.prog f F := by
  intro f F h
  have h : specs f = some F := h
  unfold specs at h
  split at h
  · cases h; exact repeat_ok
  · cases h; exact index_ok
  · cases h; exact indexByte_ok
  · cases h; exact same_ok
  · cases h; exact make_ok
  · cases h; exact count_ok
  · cases h

/-- THE EVALUATOR AT THIS SEAT. -/
theorem sound (k : Nat) (f : FuncId) : CallOk seat Tryz.prog f (evFn seat k f) := evFn_sound (tab_ok specs globs) mixed specs_ok k f

end Ev
end Go.Proofs.YtfddpaljmihinaaGreatDoor
