/-
  The evaluator at this seat. (Conditions: none beyond what each theorem asks.)
-/
import Derived.Test.YtiichencpnjbgaaGreatDoorRows
import Derived.Test.YtiichencpnjbgaaGreatDoorEvC
import Derived.Shelf.Strings.Search2
import Derived.Shelf.Strings.Repeat
import Derived.Shelf.Strings.Prefix
import Derived.Ground.NamesProg
import Derived.KernelRfl
import Derived.Test.YtiichencpnjbgaaGreatDoorEvD
import Derived.Test.YtiichencpnjbgaaGreatDoorEvPick
/-! ## EvTab -/
namespace Go.Proofs.YtiichencpnjbgaaGreatDoor
namespace Ev
open Go
set_option maxRecDepth 100000
noncomputable def tyAt (n : Nat) : TypeInfo := Tryz.prog.types.getD n default
noncomputable def ftree : Tree Func := (.node (.node (.node (.node (.node (.node (.node (.node (.node .leaf (some Tryz.f255) .leaf) (some Tryz.f127) (.node .leaf (some Tryz.f383) .leaf)) (some Tryz.f63) (.node (.node .leaf (some Tryz.f319) .leaf) (some Tryz.f191) .leaf)) (some Tryz.f31) (.node (.node (.node .leaf (some Tryz.f287) .leaf) (some Tryz.f159) .leaf) (some Tryz.f95) (.node (.node .leaf (some Tryz.f351) .leaf) (some Tryz.f223) .leaf))) (some Tryz.f15) (.node (.node (.node (.node .leaf (some Tryz.f271) .leaf) (some Tryz.f143) (.node .leaf (some Tryz.f399) .leaf)) (some Tryz.f79) (.node (.node .leaf (some Tryz.f335) .leaf) (some Tryz.f207) .leaf)) (some Tryz.f47) (.node (.node (.node .leaf (some Tryz.f303) .leaf) (some Tryz.f175) .leaf) (some Tryz.f111) (.node (.node .leaf (some Tryz.f367) .leaf) (some Tryz.f239) .leaf)))) (some Tryz.f7) (.node (.node (.node (.node (.node .leaf (some Tryz.f263) .leaf) (some Tryz.f135) (.node .leaf (some Tryz.f391) .leaf)) (some Tryz.f71) (.node (.node .leaf (some Tryz.f327) .leaf) (some Tryz.f199) .leaf)) (some Tryz.f39) (.node (.node (.node .leaf (some Tryz.f295) .leaf) (some Tryz.f167) .leaf) (some Tryz.f103) (.node (.node .leaf (some Tryz.f359) .leaf) (some Tryz.f231) .leaf))) (some Tryz.f23) (.node (.node (.node (.node .leaf (some Tryz.f279) .leaf) (some Tryz.f151) .leaf) (some Tryz.f87) (.node (.node .leaf (some Tryz.f343) .leaf) (some Tryz.f215) .leaf)) (some Tryz.f55) (.node (.node (.node .leaf (some Tryz.f311) .leaf) (some Tryz.f183) .leaf) (some Tryz.f119) (.node (.node .leaf (some Tryz.f375) .leaf) (some Tryz.f247) .leaf))))) (some Tryz.f3) (.node (.node (.node (.node (.node (.node .leaf (some Tryz.f259) .leaf) (some Tryz.f131) (.node .leaf (some Tryz.f387) .leaf)) (some Tryz.f67) (.node (.node .leaf (some Tryz.f323) .leaf) (some Tryz.f195) .leaf)) (some Tryz.f35) (.node (.node (.node .leaf (some Tryz.f291) .leaf) (some Tryz.f163) .leaf) (some Tryz.f99) (.node (.node .leaf (some Tryz.f355) .leaf) (some Tryz.f227) .leaf))) (some Tryz.f19) (.node (.node (.node (.node .leaf (some Tryz.f275) .leaf) (some Tryz.f147) .leaf) (some Tryz.f83) (.node (.node .leaf (some Tryz.f339) .leaf) (some Tryz.f211) .leaf)) (some Tryz.f51) (.node (.node (.node .leaf (some Tryz.f307) .leaf) (some Tryz.f179) .leaf) (some Tryz.f115) (.node (.node .leaf (some Tryz.f371) .leaf) (some Tryz.f243) .leaf)))) (some Tryz.f11) (.node (.node (.node (.node (.node .leaf (some Tryz.f267) .leaf) (some Tryz.f139) (.node .leaf (some Tryz.f395) .leaf)) (some Tryz.f75) (.node (.node .leaf (some Tryz.f331) .leaf) (some Tryz.f203) .leaf)) (some Tryz.f43) (.node (.node (.node .leaf (some Tryz.f299) .leaf) (some Tryz.f171) .leaf) (some Tryz.f107) (.node (.node .leaf (some Tryz.f363) .leaf) (some Tryz.f235) .leaf))) (some Tryz.f27) (.node (.node (.node (.node .leaf (some Tryz.f283) .leaf) (some Tryz.f155) .leaf) (some Tryz.f91) (.node (.node .leaf (some Tryz.f347) .leaf) (some Tryz.f219) .leaf)) (some Tryz.f59) (.node (.node (.node .leaf (some Tryz.f315) .leaf) (some Tryz.f187) .leaf) (some Tryz.f123) (.node (.node .leaf (some Tryz.f379) .leaf) (some Tryz.f251) .leaf)))))) (some Tryz.f1) (.node (.node (.node (.node (.node (.node (.node .leaf (some Tryz.f257) .leaf) (some Tryz.f129) (.node .leaf (some Tryz.f385) .leaf)) (some Tryz.f65) (.node (.node .leaf (some Tryz.f321) .leaf) (some Tryz.f193) .leaf)) (some Tryz.f33) (.node (.node (.node .leaf (some Tryz.f289) .leaf) (some Tryz.f161) .leaf) (some Tryz.f97) (.node (.node .leaf (some Tryz.f353) .leaf) (some Tryz.f225) .leaf))) (some Tryz.f17) (.node (.node (.node (.node .leaf (some Tryz.f273) .leaf) (some Tryz.f145) (.node .leaf (some Tryz.f401) .leaf)) (some Tryz.f81) (.node (.node .leaf (some Tryz.f337) .leaf) (some Tryz.f209) .leaf)) (some Tryz.f49) (.node (.node (.node .leaf (some Tryz.f305) .leaf) (some Tryz.f177) .leaf) (some Tryz.f113) (.node (.node .leaf (some Tryz.f369) .leaf) (some Tryz.f241) .leaf)))) (some Tryz.f9) (.node (.node (.node (.node (.node .leaf (some Tryz.f265) .leaf) (some Tryz.f137) (.node .leaf (some Tryz.f393) .leaf)) (some Tryz.f73) (.node (.node .leaf (some Tryz.f329) .leaf) (some Tryz.f201) .leaf)) (some Tryz.f41) (.node (.node (.node .leaf (some Tryz.f297) .leaf) (some Tryz.f169) .leaf) (some Tryz.f105) (.node (.node .leaf (some Tryz.f361) .leaf) (some Tryz.f233) .leaf))) (some Tryz.f25) (.node (.node (.node (.node .leaf (some Tryz.f281) .leaf) (some Tryz.f153) .leaf) (some Tryz.f89) (.node (.node .leaf (some Tryz.f345) .leaf) (some Tryz.f217) .leaf)) (some Tryz.f57) (.node (.node (.node .leaf (some Tryz.f313) .leaf) (some Tryz.f185) .leaf) (some Tryz.f121) (.node (.node .leaf (some Tryz.f377) .leaf) (some Tryz.f249) .leaf))))) (some Tryz.f5) (.node (.node (.node (.node (.node (.node .leaf (some Tryz.f261) .leaf) (some Tryz.f133) (.node .leaf (some Tryz.f389) .leaf)) (some Tryz.f69) (.node (.node .leaf (some Tryz.f325) .leaf) (some Tryz.f197) .leaf)) (some Tryz.f37) (.node (.node (.node .leaf (some Tryz.f293) .leaf) (some Tryz.f165) .leaf) (some Tryz.f101) (.node (.node .leaf (some Tryz.f357) .leaf) (some Tryz.f229) .leaf))) (some Tryz.f21) (.node (.node (.node (.node .leaf (some Tryz.f277) .leaf) (some Tryz.f149) .leaf) (some Tryz.f85) (.node (.node .leaf (some Tryz.f341) .leaf) (some Tryz.f213) .leaf)) (some Tryz.f53) (.node (.node (.node .leaf (some Tryz.f309) .leaf) (some Tryz.f181) .leaf) (some Tryz.f117) (.node (.node .leaf (some Tryz.f373) .leaf) (some Tryz.f245) .leaf)))) (some Tryz.f13) (.node (.node (.node (.node (.node .leaf (some Tryz.f269) .leaf) (some Tryz.f141) (.node .leaf (some Tryz.f397) .leaf)) (some Tryz.f77) (.node (.node .leaf (some Tryz.f333) .leaf) (some Tryz.f205) .leaf)) (some Tryz.f45) (.node (.node (.node .leaf (some Tryz.f301) .leaf) (some Tryz.f173) .leaf) (some Tryz.f109) (.node (.node .leaf (some Tryz.f365) .leaf) (some Tryz.f237) .leaf))) (some Tryz.f29) (.node (.node (.node (.node .leaf (some Tryz.f285) .leaf) (some Tryz.f157) .leaf) (some Tryz.f93) (.node (.node .leaf (some Tryz.f349) .leaf) (some Tryz.f221) .leaf)) (some Tryz.f61) (.node (.node (.node .leaf (some Tryz.f317) .leaf) (some Tryz.f189) .leaf) (some Tryz.f125) (.node (.node .leaf (some Tryz.f381) .leaf) (some Tryz.f253) .leaf))))))) (some Tryz.f0) (.node (.node (.node (.node (.node (.node (.node (.node .leaf (some Tryz.f256) .leaf) (some Tryz.f128) (.node .leaf (some Tryz.f384) .leaf)) (some Tryz.f64) (.node (.node .leaf (some Tryz.f320) .leaf) (some Tryz.f192) .leaf)) (some Tryz.f32) (.node (.node (.node .leaf (some Tryz.f288) .leaf) (some Tryz.f160) .leaf) (some Tryz.f96) (.node (.node .leaf (some Tryz.f352) .leaf) (some Tryz.f224) .leaf))) (some Tryz.f16) (.node (.node (.node (.node .leaf (some Tryz.f272) .leaf) (some Tryz.f144) (.node .leaf (some Tryz.f400) .leaf)) (some Tryz.f80) (.node (.node .leaf (some Tryz.f336) .leaf) (some Tryz.f208) .leaf)) (some Tryz.f48) (.node (.node (.node .leaf (some Tryz.f304) .leaf) (some Tryz.f176) .leaf) (some Tryz.f112) (.node (.node .leaf (some Tryz.f368) .leaf) (some Tryz.f240) .leaf)))) (some Tryz.f8) (.node (.node (.node (.node (.node .leaf (some Tryz.f264) .leaf) (some Tryz.f136) (.node .leaf (some Tryz.f392) .leaf)) (some Tryz.f72) (.node (.node .leaf (some Tryz.f328) .leaf) (some Tryz.f200) .leaf)) (some Tryz.f40) (.node (.node (.node .leaf (some Tryz.f296) .leaf) (some Tryz.f168) .leaf) (some Tryz.f104) (.node (.node .leaf (some Tryz.f360) .leaf) (some Tryz.f232) .leaf))) (some Tryz.f24) (.node (.node (.node (.node .leaf (some Tryz.f280) .leaf) (some Tryz.f152) .leaf) (some Tryz.f88) (.node (.node .leaf (some Tryz.f344) .leaf) (some Tryz.f216) .leaf)) (some Tryz.f56) (.node (.node (.node .leaf (some Tryz.f312) .leaf) (some Tryz.f184) .leaf) (some Tryz.f120) (.node (.node .leaf (some Tryz.f376) .leaf) (some Tryz.f248) .leaf))))) (some Tryz.f4) (.node (.node (.node (.node (.node (.node .leaf (some Tryz.f260) .leaf) (some Tryz.f132) (.node .leaf (some Tryz.f388) .leaf)) (some Tryz.f68) (.node (.node .leaf (some Tryz.f324) .leaf) (some Tryz.f196) .leaf)) (some Tryz.f36) (.node (.node (.node .leaf (some Tryz.f292) .leaf) (some Tryz.f164) .leaf) (some Tryz.f100) (.node (.node .leaf (some Tryz.f356) .leaf) (some Tryz.f228) .leaf))) (some Tryz.f20) (.node (.node (.node (.node .leaf (some Tryz.f276) .leaf) (some Tryz.f148) .leaf) (some Tryz.f84) (.node (.node .leaf (some Tryz.f340) .leaf) (some Tryz.f212) .leaf)) (some Tryz.f52) (.node (.node (.node .leaf (some Tryz.f308) .leaf) (some Tryz.f180) .leaf) (some Tryz.f116) (.node (.node .leaf (some Tryz.f372) .leaf) (some Tryz.f244) .leaf)))) (some Tryz.f12) (.node (.node (.node (.node (.node .leaf (some Tryz.f268) .leaf) (some Tryz.f140) (.node .leaf (some Tryz.f396) .leaf)) (some Tryz.f76) (.node (.node .leaf (some Tryz.f332) .leaf) (some Tryz.f204) .leaf)) (some Tryz.f44) (.node (.node (.node .leaf (some Tryz.f300) .leaf) (some Tryz.f172) .leaf) (some Tryz.f108) (.node (.node .leaf (some Tryz.f364) .leaf) (some Tryz.f236) .leaf))) (some Tryz.f28) (.node (.node (.node (.node .leaf (some Tryz.f284) .leaf) (some Tryz.f156) .leaf) (some Tryz.f92) (.node (.node .leaf (some Tryz.f348) .leaf) (some Tryz.f220) .leaf)) (some Tryz.f60) (.node (.node (.node .leaf (some Tryz.f316) .leaf) (some Tryz.f188) .leaf) (some Tryz.f124) (.node (.node .leaf (some Tryz.f380) .leaf) (some Tryz.f252) .leaf)))))) (some Tryz.f2) (.node (.node (.node (.node (.node (.node (.node .leaf (some Tryz.f258) .leaf) (some Tryz.f130) (.node .leaf (some Tryz.f386) .leaf)) (some Tryz.f66) (.node (.node .leaf (some Tryz.f322) .leaf) (some Tryz.f194) .leaf)) (some Tryz.f34) (.node (.node (.node .leaf (some Tryz.f290) .leaf) (some Tryz.f162) .leaf) (some Tryz.f98) (.node (.node .leaf (some Tryz.f354) .leaf) (some Tryz.f226) .leaf))) (some Tryz.f18) (.node (.node (.node (.node .leaf (some Tryz.f274) .leaf) (some Tryz.f146) .leaf) (some Tryz.f82) (.node (.node .leaf (some Tryz.f338) .leaf) (some Tryz.f210) .leaf)) (some Tryz.f50) (.node (.node (.node .leaf (some Tryz.f306) .leaf) (some Tryz.f178) .leaf) (some Tryz.f114) (.node (.node .leaf (some Tryz.f370) .leaf) (some Tryz.f242) .leaf)))) (some Tryz.f10) (.node (.node (.node (.node (.node .leaf (some Tryz.f266) .leaf) (some Tryz.f138) (.node .leaf (some Tryz.f394) .leaf)) (some Tryz.f74) (.node (.node .leaf (some Tryz.f330) .leaf) (some Tryz.f202) .leaf)) (some Tryz.f42) (.node (.node (.node .leaf (some Tryz.f298) .leaf) (some Tryz.f170) .leaf) (some Tryz.f106) (.node (.node .leaf (some Tryz.f362) .leaf) (some Tryz.f234) .leaf))) (some Tryz.f26) (.node (.node (.node (.node .leaf (some Tryz.f282) .leaf) (some Tryz.f154) .leaf) (some Tryz.f90) (.node (.node .leaf (some Tryz.f346) .leaf) (some Tryz.f218) .leaf)) (some Tryz.f58) (.node (.node (.node .leaf (some Tryz.f314) .leaf) (some Tryz.f186) .leaf) (some Tryz.f122) (.node (.node .leaf (some Tryz.f378) .leaf) (some Tryz.f250) .leaf))))) (some Tryz.f6) (.node (.node (.node (.node (.node (.node .leaf (some Tryz.f262) .leaf) (some Tryz.f134) (.node .leaf (some Tryz.f390) .leaf)) (some Tryz.f70) (.node (.node .leaf (some Tryz.f326) .leaf) (some Tryz.f198) .leaf)) (some Tryz.f38) (.node (.node (.node .leaf (some Tryz.f294) .leaf) (some Tryz.f166) .leaf) (some Tryz.f102) (.node (.node .leaf (some Tryz.f358) .leaf) (some Tryz.f230) .leaf))) (some Tryz.f22) (.node (.node (.node (.node .leaf (some Tryz.f278) .leaf) (some Tryz.f150) .leaf) (some Tryz.f86) (.node (.node .leaf (some Tryz.f342) .leaf) (some Tryz.f214) .leaf)) (some Tryz.f54) (.node (.node (.node .leaf (some Tryz.f310) .leaf) (some Tryz.f182) .leaf) (some Tryz.f118) (.node (.node .leaf (some Tryz.f374) .leaf) (some Tryz.f246) .leaf)))) (some Tryz.f14) (.node (.node (.node (.node (.node .leaf (some Tryz.f270) .leaf) (some Tryz.f142) (.node .leaf (some Tryz.f398) .leaf)) (some Tryz.f78) (.node (.node .leaf (some Tryz.f334) .leaf) (some Tryz.f206) .leaf)) (some Tryz.f46) (.node (.node (.node .leaf (some Tryz.f302) .leaf) (some Tryz.f174) .leaf) (some Tryz.f110) (.node (.node .leaf (some Tryz.f366) .leaf) (some Tryz.f238) .leaf))) (some Tryz.f30) (.node (.node (.node (.node .leaf (some Tryz.f286) .leaf) (some Tryz.f158) .leaf) (some Tryz.f94) (.node (.node .leaf (some Tryz.f350) .leaf) (some Tryz.f222) .leaf)) (some Tryz.f62) (.node (.node (.node .leaf (some Tryz.f318) .leaf) (some Tryz.f190) .leaf) (some Tryz.f126) (.node (.node .leaf (some Tryz.f382) .leaf) (some Tryz.f254) .leaf))))))))
noncomputable def itree : Tree TypeInfo := (.node (.node (.node (.node (.node (.node (.node (.node (.node .leaf (some (tyAt 255)) .leaf) (some (tyAt 127)) (.node .leaf (some (tyAt 383)) .leaf)) (some (tyAt 63)) (.node (.node .leaf (some (tyAt 319)) .leaf) (some (tyAt 191)) .leaf)) (some (tyAt 31)) (.node (.node (.node .leaf (some (tyAt 287)) .leaf) (some (tyAt 159)) .leaf) (some (tyAt 95)) (.node (.node .leaf (some (tyAt 351)) .leaf) (some (tyAt 223)) .leaf))) (some (tyAt 15)) (.node (.node (.node (.node .leaf (some (tyAt 271)) .leaf) (some (tyAt 143)) .leaf) (some (tyAt 79)) (.node (.node .leaf (some (tyAt 335)) .leaf) (some (tyAt 207)) .leaf)) (some (tyAt 47)) (.node (.node (.node .leaf (some (tyAt 303)) .leaf) (some (tyAt 175)) .leaf) (some (tyAt 111)) (.node (.node .leaf (some (tyAt 367)) .leaf) (some (tyAt 239)) .leaf)))) (some (tyAt 7)) (.node (.node (.node (.node (.node .leaf (some (tyAt 263)) .leaf) (some (tyAt 135)) .leaf) (some (tyAt 71)) (.node (.node .leaf (some (tyAt 327)) .leaf) (some (tyAt 199)) .leaf)) (some (tyAt 39)) (.node (.node (.node .leaf (some (tyAt 295)) .leaf) (some (tyAt 167)) .leaf) (some (tyAt 103)) (.node (.node .leaf (some (tyAt 359)) .leaf) (some (tyAt 231)) .leaf))) (some (tyAt 23)) (.node (.node (.node (.node .leaf (some (tyAt 279)) .leaf) (some (tyAt 151)) .leaf) (some (tyAt 87)) (.node (.node .leaf (some (tyAt 343)) .leaf) (some (tyAt 215)) .leaf)) (some (tyAt 55)) (.node (.node (.node .leaf (some (tyAt 311)) .leaf) (some (tyAt 183)) .leaf) (some (tyAt 119)) (.node (.node .leaf (some (tyAt 375)) .leaf) (some (tyAt 247)) .leaf))))) (some (tyAt 3)) (.node (.node (.node (.node (.node (.node .leaf (some (tyAt 259)) .leaf) (some (tyAt 131)) (.node .leaf (some (tyAt 387)) .leaf)) (some (tyAt 67)) (.node (.node .leaf (some (tyAt 323)) .leaf) (some (tyAt 195)) .leaf)) (some (tyAt 35)) (.node (.node (.node .leaf (some (tyAt 291)) .leaf) (some (tyAt 163)) .leaf) (some (tyAt 99)) (.node (.node .leaf (some (tyAt 355)) .leaf) (some (tyAt 227)) .leaf))) (some (tyAt 19)) (.node (.node (.node (.node .leaf (some (tyAt 275)) .leaf) (some (tyAt 147)) .leaf) (some (tyAt 83)) (.node (.node .leaf (some (tyAt 339)) .leaf) (some (tyAt 211)) .leaf)) (some (tyAt 51)) (.node (.node (.node .leaf (some (tyAt 307)) .leaf) (some (tyAt 179)) .leaf) (some (tyAt 115)) (.node (.node .leaf (some (tyAt 371)) .leaf) (some (tyAt 243)) .leaf)))) (some (tyAt 11)) (.node (.node (.node (.node (.node .leaf (some (tyAt 267)) .leaf) (some (tyAt 139)) .leaf) (some (tyAt 75)) (.node (.node .leaf (some (tyAt 331)) .leaf) (some (tyAt 203)) .leaf)) (some (tyAt 43)) (.node (.node (.node .leaf (some (tyAt 299)) .leaf) (some (tyAt 171)) .leaf) (some (tyAt 107)) (.node (.node .leaf (some (tyAt 363)) .leaf) (some (tyAt 235)) .leaf))) (some (tyAt 27)) (.node (.node (.node (.node .leaf (some (tyAt 283)) .leaf) (some (tyAt 155)) .leaf) (some (tyAt 91)) (.node (.node .leaf (some (tyAt 347)) .leaf) (some (tyAt 219)) .leaf)) (some (tyAt 59)) (.node (.node (.node .leaf (some (tyAt 315)) .leaf) (some (tyAt 187)) .leaf) (some (tyAt 123)) (.node (.node .leaf (some (tyAt 379)) .leaf) (some (tyAt 251)) .leaf)))))) (some (tyAt 1)) (.node (.node (.node (.node (.node (.node (.node .leaf (some (tyAt 257)) .leaf) (some (tyAt 129)) (.node .leaf (some (tyAt 385)) .leaf)) (some (tyAt 65)) (.node (.node .leaf (some (tyAt 321)) .leaf) (some (tyAt 193)) .leaf)) (some (tyAt 33)) (.node (.node (.node .leaf (some (tyAt 289)) .leaf) (some (tyAt 161)) .leaf) (some (tyAt 97)) (.node (.node .leaf (some (tyAt 353)) .leaf) (some (tyAt 225)) .leaf))) (some (tyAt 17)) (.node (.node (.node (.node .leaf (some (tyAt 273)) .leaf) (some (tyAt 145)) .leaf) (some (tyAt 81)) (.node (.node .leaf (some (tyAt 337)) .leaf) (some (tyAt 209)) .leaf)) (some (tyAt 49)) (.node (.node (.node .leaf (some (tyAt 305)) .leaf) (some (tyAt 177)) .leaf) (some (tyAt 113)) (.node (.node .leaf (some (tyAt 369)) .leaf) (some (tyAt 241)) .leaf)))) (some (tyAt 9)) (.node (.node (.node (.node (.node .leaf (some (tyAt 265)) .leaf) (some (tyAt 137)) .leaf) (some (tyAt 73)) (.node (.node .leaf (some (tyAt 329)) .leaf) (some (tyAt 201)) .leaf)) (some (tyAt 41)) (.node (.node (.node .leaf (some (tyAt 297)) .leaf) (some (tyAt 169)) .leaf) (some (tyAt 105)) (.node (.node .leaf (some (tyAt 361)) .leaf) (some (tyAt 233)) .leaf))) (some (tyAt 25)) (.node (.node (.node (.node .leaf (some (tyAt 281)) .leaf) (some (tyAt 153)) .leaf) (some (tyAt 89)) (.node (.node .leaf (some (tyAt 345)) .leaf) (some (tyAt 217)) .leaf)) (some (tyAt 57)) (.node (.node (.node .leaf (some (tyAt 313)) .leaf) (some (tyAt 185)) .leaf) (some (tyAt 121)) (.node (.node .leaf (some (tyAt 377)) .leaf) (some (tyAt 249)) .leaf))))) (some (tyAt 5)) (.node (.node (.node (.node (.node (.node .leaf (some (tyAt 261)) .leaf) (some (tyAt 133)) (.node .leaf (some (tyAt 389)) .leaf)) (some (tyAt 69)) (.node (.node .leaf (some (tyAt 325)) .leaf) (some (tyAt 197)) .leaf)) (some (tyAt 37)) (.node (.node (.node .leaf (some (tyAt 293)) .leaf) (some (tyAt 165)) .leaf) (some (tyAt 101)) (.node (.node .leaf (some (tyAt 357)) .leaf) (some (tyAt 229)) .leaf))) (some (tyAt 21)) (.node (.node (.node (.node .leaf (some (tyAt 277)) .leaf) (some (tyAt 149)) .leaf) (some (tyAt 85)) (.node (.node .leaf (some (tyAt 341)) .leaf) (some (tyAt 213)) .leaf)) (some (tyAt 53)) (.node (.node (.node .leaf (some (tyAt 309)) .leaf) (some (tyAt 181)) .leaf) (some (tyAt 117)) (.node (.node .leaf (some (tyAt 373)) .leaf) (some (tyAt 245)) .leaf)))) (some (tyAt 13)) (.node (.node (.node (.node (.node .leaf (some (tyAt 269)) .leaf) (some (tyAt 141)) .leaf) (some (tyAt 77)) (.node (.node .leaf (some (tyAt 333)) .leaf) (some (tyAt 205)) .leaf)) (some (tyAt 45)) (.node (.node (.node .leaf (some (tyAt 301)) .leaf) (some (tyAt 173)) .leaf) (some (tyAt 109)) (.node (.node .leaf (some (tyAt 365)) .leaf) (some (tyAt 237)) .leaf))) (some (tyAt 29)) (.node (.node (.node (.node .leaf (some (tyAt 285)) .leaf) (some (tyAt 157)) .leaf) (some (tyAt 93)) (.node (.node .leaf (some (tyAt 349)) .leaf) (some (tyAt 221)) .leaf)) (some (tyAt 61)) (.node (.node (.node .leaf (some (tyAt 317)) .leaf) (some (tyAt 189)) .leaf) (some (tyAt 125)) (.node (.node .leaf (some (tyAt 381)) .leaf) (some (tyAt 253)) .leaf))))))) (some (tyAt 0)) (.node (.node (.node (.node (.node (.node (.node (.node .leaf (some (tyAt 256)) .leaf) (some (tyAt 128)) (.node .leaf (some (tyAt 384)) .leaf)) (some (tyAt 64)) (.node (.node .leaf (some (tyAt 320)) .leaf) (some (tyAt 192)) .leaf)) (some (tyAt 32)) (.node (.node (.node .leaf (some (tyAt 288)) .leaf) (some (tyAt 160)) .leaf) (some (tyAt 96)) (.node (.node .leaf (some (tyAt 352)) .leaf) (some (tyAt 224)) .leaf))) (some (tyAt 16)) (.node (.node (.node (.node .leaf (some (tyAt 272)) .leaf) (some (tyAt 144)) .leaf) (some (tyAt 80)) (.node (.node .leaf (some (tyAt 336)) .leaf) (some (tyAt 208)) .leaf)) (some (tyAt 48)) (.node (.node (.node .leaf (some (tyAt 304)) .leaf) (some (tyAt 176)) .leaf) (some (tyAt 112)) (.node (.node .leaf (some (tyAt 368)) .leaf) (some (tyAt 240)) .leaf)))) (some (tyAt 8)) (.node (.node (.node (.node (.node .leaf (some (tyAt 264)) .leaf) (some (tyAt 136)) .leaf) (some (tyAt 72)) (.node (.node .leaf (some (tyAt 328)) .leaf) (some (tyAt 200)) .leaf)) (some (tyAt 40)) (.node (.node (.node .leaf (some (tyAt 296)) .leaf) (some (tyAt 168)) .leaf) (some (tyAt 104)) (.node (.node .leaf (some (tyAt 360)) .leaf) (some (tyAt 232)) .leaf))) (some (tyAt 24)) (.node (.node (.node (.node .leaf (some (tyAt 280)) .leaf) (some (tyAt 152)) .leaf) (some (tyAt 88)) (.node (.node .leaf (some (tyAt 344)) .leaf) (some (tyAt 216)) .leaf)) (some (tyAt 56)) (.node (.node (.node .leaf (some (tyAt 312)) .leaf) (some (tyAt 184)) .leaf) (some (tyAt 120)) (.node (.node .leaf (some (tyAt 376)) .leaf) (some (tyAt 248)) .leaf))))) (some (tyAt 4)) (.node (.node (.node (.node (.node (.node .leaf (some (tyAt 260)) .leaf) (some (tyAt 132)) (.node .leaf (some (tyAt 388)) .leaf)) (some (tyAt 68)) (.node (.node .leaf (some (tyAt 324)) .leaf) (some (tyAt 196)) .leaf)) (some (tyAt 36)) (.node (.node (.node .leaf (some (tyAt 292)) .leaf) (some (tyAt 164)) .leaf) (some (tyAt 100)) (.node (.node .leaf (some (tyAt 356)) .leaf) (some (tyAt 228)) .leaf))) (some (tyAt 20)) (.node (.node (.node (.node .leaf (some (tyAt 276)) .leaf) (some (tyAt 148)) .leaf) (some (tyAt 84)) (.node (.node .leaf (some (tyAt 340)) .leaf) (some (tyAt 212)) .leaf)) (some (tyAt 52)) (.node (.node (.node .leaf (some (tyAt 308)) .leaf) (some (tyAt 180)) .leaf) (some (tyAt 116)) (.node (.node .leaf (some (tyAt 372)) .leaf) (some (tyAt 244)) .leaf)))) (some (tyAt 12)) (.node (.node (.node (.node (.node .leaf (some (tyAt 268)) .leaf) (some (tyAt 140)) .leaf) (some (tyAt 76)) (.node (.node .leaf (some (tyAt 332)) .leaf) (some (tyAt 204)) .leaf)) (some (tyAt 44)) (.node (.node (.node .leaf (some (tyAt 300)) .leaf) (some (tyAt 172)) .leaf) (some (tyAt 108)) (.node (.node .leaf (some (tyAt 364)) .leaf) (some (tyAt 236)) .leaf))) (some (tyAt 28)) (.node (.node (.node (.node .leaf (some (tyAt 284)) .leaf) (some (tyAt 156)) .leaf) (some (tyAt 92)) (.node (.node .leaf (some (tyAt 348)) .leaf) (some (tyAt 220)) .leaf)) (some (tyAt 60)) (.node (.node (.node .leaf (some (tyAt 316)) .leaf) (some (tyAt 188)) .leaf) (some (tyAt 124)) (.node (.node .leaf (some (tyAt 380)) .leaf) (some (tyAt 252)) .leaf)))))) (some (tyAt 2)) (.node (.node (.node (.node (.node (.node (.node .leaf (some (tyAt 258)) .leaf) (some (tyAt 130)) (.node .leaf (some (tyAt 386)) .leaf)) (some (tyAt 66)) (.node (.node .leaf (some (tyAt 322)) .leaf) (some (tyAt 194)) .leaf)) (some (tyAt 34)) (.node (.node (.node .leaf (some (tyAt 290)) .leaf) (some (tyAt 162)) .leaf) (some (tyAt 98)) (.node (.node .leaf (some (tyAt 354)) .leaf) (some (tyAt 226)) .leaf))) (some (tyAt 18)) (.node (.node (.node (.node .leaf (some (tyAt 274)) .leaf) (some (tyAt 146)) .leaf) (some (tyAt 82)) (.node (.node .leaf (some (tyAt 338)) .leaf) (some (tyAt 210)) .leaf)) (some (tyAt 50)) (.node (.node (.node .leaf (some (tyAt 306)) .leaf) (some (tyAt 178)) .leaf) (some (tyAt 114)) (.node (.node .leaf (some (tyAt 370)) .leaf) (some (tyAt 242)) .leaf)))) (some (tyAt 10)) (.node (.node (.node (.node (.node .leaf (some (tyAt 266)) .leaf) (some (tyAt 138)) .leaf) (some (tyAt 74)) (.node (.node .leaf (some (tyAt 330)) .leaf) (some (tyAt 202)) .leaf)) (some (tyAt 42)) (.node (.node (.node .leaf (some (tyAt 298)) .leaf) (some (tyAt 170)) .leaf) (some (tyAt 106)) (.node (.node .leaf (some (tyAt 362)) .leaf) (some (tyAt 234)) .leaf))) (some (tyAt 26)) (.node (.node (.node (.node .leaf (some (tyAt 282)) .leaf) (some (tyAt 154)) .leaf) (some (tyAt 90)) (.node (.node .leaf (some (tyAt 346)) .leaf) (some (tyAt 218)) .leaf)) (some (tyAt 58)) (.node (.node (.node .leaf (some (tyAt 314)) .leaf) (some (tyAt 186)) .leaf) (some (tyAt 122)) (.node (.node .leaf (some (tyAt 378)) .leaf) (some (tyAt 250)) .leaf))))) (some (tyAt 6)) (.node (.node (.node (.node (.node (.node .leaf (some (tyAt 262)) .leaf) (some (tyAt 134)) .leaf) (some (tyAt 70)) (.node (.node .leaf (some (tyAt 326)) .leaf) (some (tyAt 198)) .leaf)) (some (tyAt 38)) (.node (.node (.node .leaf (some (tyAt 294)) .leaf) (some (tyAt 166)) .leaf) (some (tyAt 102)) (.node (.node .leaf (some (tyAt 358)) .leaf) (some (tyAt 230)) .leaf))) (some (tyAt 22)) (.node (.node (.node (.node .leaf (some (tyAt 278)) .leaf) (some (tyAt 150)) .leaf) (some (tyAt 86)) (.node (.node .leaf (some (tyAt 342)) .leaf) (some (tyAt 214)) .leaf)) (some (tyAt 54)) (.node (.node (.node .leaf (some (tyAt 310)) .leaf) (some (tyAt 182)) .leaf) (some (tyAt 118)) (.node (.node .leaf (some (tyAt 374)) .leaf) (some (tyAt 246)) .leaf)))) (some (tyAt 14)) (.node (.node (.node (.node (.node .leaf (some (tyAt 270)) .leaf) (some (tyAt 142)) .leaf) (some (tyAt 78)) (.node (.node .leaf (some (tyAt 334)) .leaf) (some (tyAt 206)) .leaf)) (some (tyAt 46)) (.node (.node (.node .leaf (some (tyAt 302)) .leaf) (some (tyAt 174)) .leaf) (some (tyAt 110)) (.node (.node .leaf (some (tyAt 366)) .leaf) (some (tyAt 238)) .leaf))) (some (tyAt 30)) (.node (.node (.node (.node .leaf (some (tyAt 286)) .leaf) (some (tyAt 158)) .leaf) (some (tyAt 94)) (.node (.node .leaf (some (tyAt 350)) .leaf) (some (tyAt 222)) .leaf)) (some (tyAt 62)) (.node (.node (.node .leaf (some (tyAt 318)) .leaf) (some (tyAt 190)) .leaf) (some (tyAt 126)) (.node (.node .leaf (some (tyAt 382)) .leaf) (some (tyAt 254)) .leaf))))))))
noncomputable def flist : List Func := [Tryz.f0, Tryz.f1, Tryz.f2, Tryz.f3, Tryz.f4, Tryz.f5, Tryz.f6, Tryz.f7, Tryz.f8, Tryz.f9, Tryz.f10, Tryz.f11, Tryz.f12, Tryz.f13, Tryz.f14, Tryz.f15, Tryz.f16, Tryz.f17, Tryz.f18, Tryz.f19, Tryz.f20, Tryz.f21, Tryz.f22, Tryz.f23, Tryz.f24, Tryz.f25, Tryz.f26, Tryz.f27, Tryz.f28, Tryz.f29, Tryz.f30, Tryz.f31, Tryz.f32, Tryz.f33, Tryz.f34, Tryz.f35, Tryz.f36, Tryz.f37, Tryz.f38, Tryz.f39, Tryz.f40, Tryz.f41, Tryz.f42, Tryz.f43, Tryz.f44, Tryz.f45, Tryz.f46, Tryz.f47, Tryz.f48, Tryz.f49, Tryz.f50, Tryz.f51, Tryz.f52, Tryz.f53, Tryz.f54, Tryz.f55, Tryz.f56, Tryz.f57, Tryz.f58, Tryz.f59, Tryz.f60, Tryz.f61, Tryz.f62, Tryz.f63, Tryz.f64, Tryz.f65, Tryz.f66, Tryz.f67, Tryz.f68, Tryz.f69, Tryz.f70, Tryz.f71, Tryz.f72, Tryz.f73, Tryz.f74, Tryz.f75, Tryz.f76, Tryz.f77, Tryz.f78, Tryz.f79, Tryz.f80, Tryz.f81, Tryz.f82, Tryz.f83, Tryz.f84, Tryz.f85, Tryz.f86, Tryz.f87, Tryz.f88, Tryz.f89, Tryz.f90, Tryz.f91, Tryz.f92, Tryz.f93, Tryz.f94, Tryz.f95, Tryz.f96, Tryz.f97, Tryz.f98, Tryz.f99, Tryz.f100, Tryz.f101, Tryz.f102, Tryz.f103, Tryz.f104, Tryz.f105, Tryz.f106, Tryz.f107, Tryz.f108, Tryz.f109, Tryz.f110, Tryz.f111, Tryz.f112, Tryz.f113, Tryz.f114, Tryz.f115, Tryz.f116, Tryz.f117, Tryz.f118, Tryz.f119, Tryz.f120, Tryz.f121, Tryz.f122, Tryz.f123, Tryz.f124, Tryz.f125, Tryz.f126, Tryz.f127, Tryz.f128, Tryz.f129, Tryz.f130, Tryz.f131, Tryz.f132, Tryz.f133, Tryz.f134, Tryz.f135, Tryz.f136, Tryz.f137, Tryz.f138, Tryz.f139, Tryz.f140, Tryz.f141, Tryz.f142, Tryz.f143, Tryz.f144, Tryz.f145, Tryz.f146, Tryz.f147, Tryz.f148, Tryz.f149, Tryz.f150, Tryz.f151, Tryz.f152, Tryz.f153, Tryz.f154, Tryz.f155, Tryz.f156, Tryz.f157, Tryz.f158, Tryz.f159, Tryz.f160, Tryz.f161, Tryz.f162, Tryz.f163, Tryz.f164, Tryz.f165, Tryz.f166, Tryz.f167, Tryz.f168, Tryz.f169, Tryz.f170, Tryz.f171, Tryz.f172, Tryz.f173, Tryz.f174, Tryz.f175, Tryz.f176, Tryz.f177, Tryz.f178, Tryz.f179, Tryz.f180, Tryz.f181, Tryz.f182, Tryz.f183, Tryz.f184, Tryz.f185, Tryz.f186, Tryz.f187, Tryz.f188, Tryz.f189, Tryz.f190, Tryz.f191, Tryz.f192, Tryz.f193, Tryz.f194, Tryz.f195, Tryz.f196, Tryz.f197, Tryz.f198, Tryz.f199, Tryz.f200, Tryz.f201, Tryz.f202, Tryz.f203, Tryz.f204, Tryz.f205, Tryz.f206, Tryz.f207, Tryz.f208, Tryz.f209, Tryz.f210, Tryz.f211, Tryz.f212, Tryz.f213, Tryz.f214, Tryz.f215, Tryz.f216, Tryz.f217, Tryz.f218, Tryz.f219, Tryz.f220, Tryz.f221, Tryz.f222, Tryz.f223, Tryz.f224, Tryz.f225, Tryz.f226, Tryz.f227, Tryz.f228, Tryz.f229, Tryz.f230, Tryz.f231, Tryz.f232, Tryz.f233, Tryz.f234, Tryz.f235, Tryz.f236, Tryz.f237, Tryz.f238, Tryz.f239, Tryz.f240, Tryz.f241, Tryz.f242, Tryz.f243, Tryz.f244, Tryz.f245, Tryz.f246, Tryz.f247, Tryz.f248, Tryz.f249, Tryz.f250, Tryz.f251, Tryz.f252, Tryz.f253, Tryz.f254, Tryz.f255, Tryz.f256, Tryz.f257, Tryz.f258, Tryz.f259, Tryz.f260, Tryz.f261, Tryz.f262, Tryz.f263, Tryz.f264, Tryz.f265, Tryz.f266, Tryz.f267, Tryz.f268, Tryz.f269, Tryz.f270, Tryz.f271, Tryz.f272, Tryz.f273, Tryz.f274, Tryz.f275, Tryz.f276, Tryz.f277, Tryz.f278, Tryz.f279, Tryz.f280, Tryz.f281, Tryz.f282, Tryz.f283, Tryz.f284, Tryz.f285, Tryz.f286, Tryz.f287, Tryz.f288, Tryz.f289, Tryz.f290, Tryz.f291, Tryz.f292, Tryz.f293, Tryz.f294, Tryz.f295, Tryz.f296, Tryz.f297, Tryz.f298, Tryz.f299, Tryz.f300, Tryz.f301, Tryz.f302, Tryz.f303, Tryz.f304, Tryz.f305, Tryz.f306, Tryz.f307, Tryz.f308, Tryz.f309, Tryz.f310, Tryz.f311, Tryz.f312, Tryz.f313, Tryz.f314, Tryz.f315, Tryz.f316, Tryz.f317, Tryz.f318, Tryz.f319, Tryz.f320, Tryz.f321, Tryz.f322, Tryz.f323, Tryz.f324, Tryz.f325, Tryz.f326, Tryz.f327, Tryz.f328, Tryz.f329, Tryz.f330, Tryz.f331, Tryz.f332, Tryz.f333, Tryz.f334, Tryz.f335, Tryz.f336, Tryz.f337, Tryz.f338, Tryz.f339, Tryz.f340, Tryz.f341, Tryz.f342, Tryz.f343, Tryz.f344, Tryz.f345, Tryz.f346, Tryz.f347, Tryz.f348, Tryz.f349, Tryz.f350, Tryz.f351, Tryz.f352, Tryz.f353, Tryz.f354, Tryz.f355, Tryz.f356, Tryz.f357, Tryz.f358, Tryz.f359, Tryz.f360, Tryz.f361, Tryz.f362, Tryz.f363, Tryz.f364, Tryz.f365, Tryz.f366, Tryz.f367, Tryz.f368, Tryz.f369, Tryz.f370, Tryz.f371, Tryz.f372, Tryz.f373, Tryz.f374, Tryz.f375, Tryz.f376, Tryz.f377, Tryz.f378, Tryz.f379, Tryz.f380, Tryz.f381, Tryz.f382, Tryz.f383, Tryz.f384, Tryz.f385, Tryz.f386, Tryz.f387, Tryz.f388, Tryz.f389, Tryz.f390, Tryz.f391, Tryz.f392, Tryz.f393, Tryz.f394, Tryz.f395, Tryz.f396, Tryz.f397, Tryz.f398, Tryz.f399, Tryz.f400, Tryz.f401]
noncomputable def ilist : List TypeInfo := [(tyAt 0), (tyAt 1), (tyAt 2), (tyAt 3), (tyAt 4), (tyAt 5), (tyAt 6), (tyAt 7), (tyAt 8), (tyAt 9), (tyAt 10), (tyAt 11), (tyAt 12), (tyAt 13), (tyAt 14), (tyAt 15), (tyAt 16), (tyAt 17), (tyAt 18), (tyAt 19), (tyAt 20), (tyAt 21), (tyAt 22), (tyAt 23), (tyAt 24), (tyAt 25), (tyAt 26), (tyAt 27), (tyAt 28), (tyAt 29), (tyAt 30), (tyAt 31), (tyAt 32), (tyAt 33), (tyAt 34), (tyAt 35), (tyAt 36), (tyAt 37), (tyAt 38), (tyAt 39), (tyAt 40), (tyAt 41), (tyAt 42), (tyAt 43), (tyAt 44), (tyAt 45), (tyAt 46), (tyAt 47), (tyAt 48), (tyAt 49), (tyAt 50), (tyAt 51), (tyAt 52), (tyAt 53), (tyAt 54), (tyAt 55), (tyAt 56), (tyAt 57), (tyAt 58), (tyAt 59), (tyAt 60), (tyAt 61), (tyAt 62), (tyAt 63), (tyAt 64), (tyAt 65), (tyAt 66), (tyAt 67), (tyAt 68), (tyAt 69), (tyAt 70), (tyAt 71), (tyAt 72), (tyAt 73), (tyAt 74), (tyAt 75), (tyAt 76), (tyAt 77), (tyAt 78), (tyAt 79), (tyAt 80), (tyAt 81), (tyAt 82), (tyAt 83), (tyAt 84), (tyAt 85), (tyAt 86), (tyAt 87), (tyAt 88), (tyAt 89), (tyAt 90), (tyAt 91), (tyAt 92), (tyAt 93), (tyAt 94), (tyAt 95), (tyAt 96), (tyAt 97), (tyAt 98), (tyAt 99), (tyAt 100), (tyAt 101), (tyAt 102), (tyAt 103), (tyAt 104), (tyAt 105), (tyAt 106), (tyAt 107), (tyAt 108), (tyAt 109), (tyAt 110), (tyAt 111), (tyAt 112), (tyAt 113), (tyAt 114), (tyAt 115), (tyAt 116), (tyAt 117), (tyAt 118), (tyAt 119), (tyAt 120), (tyAt 121), (tyAt 122), (tyAt 123), (tyAt 124), (tyAt 125), (tyAt 126), (tyAt 127), (tyAt 128), (tyAt 129), (tyAt 130), (tyAt 131), (tyAt 132), (tyAt 133), (tyAt 134), (tyAt 135), (tyAt 136), (tyAt 137), (tyAt 138), (tyAt 139), (tyAt 140), (tyAt 141), (tyAt 142), (tyAt 143), (tyAt 144), (tyAt 145), (tyAt 146), (tyAt 147), (tyAt 148), (tyAt 149), (tyAt 150), (tyAt 151), (tyAt 152), (tyAt 153), (tyAt 154), (tyAt 155), (tyAt 156), (tyAt 157), (tyAt 158), (tyAt 159), (tyAt 160), (tyAt 161), (tyAt 162), (tyAt 163), (tyAt 164), (tyAt 165), (tyAt 166), (tyAt 167), (tyAt 168), (tyAt 169), (tyAt 170), (tyAt 171), (tyAt 172), (tyAt 173), (tyAt 174), (tyAt 175), (tyAt 176), (tyAt 177), (tyAt 178), (tyAt 179), (tyAt 180), (tyAt 181), (tyAt 182), (tyAt 183), (tyAt 184), (tyAt 185), (tyAt 186), (tyAt 187), (tyAt 188), (tyAt 189), (tyAt 190), (tyAt 191), (tyAt 192), (tyAt 193), (tyAt 194), (tyAt 195), (tyAt 196), (tyAt 197), (tyAt 198), (tyAt 199), (tyAt 200), (tyAt 201), (tyAt 202), (tyAt 203), (tyAt 204), (tyAt 205), (tyAt 206), (tyAt 207), (tyAt 208), (tyAt 209), (tyAt 210), (tyAt 211), (tyAt 212), (tyAt 213), (tyAt 214), (tyAt 215), (tyAt 216), (tyAt 217), (tyAt 218), (tyAt 219), (tyAt 220), (tyAt 221), (tyAt 222), (tyAt 223), (tyAt 224), (tyAt 225), (tyAt 226), (tyAt 227), (tyAt 228), (tyAt 229), (tyAt 230), (tyAt 231), (tyAt 232), (tyAt 233), (tyAt 234), (tyAt 235), (tyAt 236), (tyAt 237), (tyAt 238), (tyAt 239), (tyAt 240), (tyAt 241), (tyAt 242), (tyAt 243), (tyAt 244), (tyAt 245), (tyAt 246), (tyAt 247), (tyAt 248), (tyAt 249), (tyAt 250), (tyAt 251), (tyAt 252), (tyAt 253), (tyAt 254), (tyAt 255), (tyAt 256), (tyAt 257), (tyAt 258), (tyAt 259), (tyAt 260), (tyAt 261), (tyAt 262), (tyAt 263), (tyAt 264), (tyAt 265), (tyAt 266), (tyAt 267), (tyAt 268), (tyAt 269), (tyAt 270), (tyAt 271), (tyAt 272), (tyAt 273), (tyAt 274), (tyAt 275), (tyAt 276), (tyAt 277), (tyAt 278), (tyAt 279), (tyAt 280), (tyAt 281), (tyAt 282), (tyAt 283), (tyAt 284), (tyAt 285), (tyAt 286), (tyAt 287), (tyAt 288), (tyAt 289), (tyAt 290), (tyAt 291), (tyAt 292), (tyAt 293), (tyAt 294), (tyAt 295), (tyAt 296), (tyAt 297), (tyAt 298), (tyAt 299), (tyAt 300), (tyAt 301), (tyAt 302), (tyAt 303), (tyAt 304), (tyAt 305), (tyAt 306), (tyAt 307), (tyAt 308), (tyAt 309), (tyAt 310), (tyAt 311), (tyAt 312), (tyAt 313), (tyAt 314), (tyAt 315), (tyAt 316), (tyAt 317), (tyAt 318), (tyAt 319), (tyAt 320), (tyAt 321), (tyAt 322), (tyAt 323), (tyAt 324), (tyAt 325), (tyAt 326), (tyAt 327), (tyAt 328), (tyAt 329), (tyAt 330), (tyAt 331), (tyAt 332), (tyAt 333), (tyAt 334), (tyAt 335), (tyAt 336), (tyAt 337), (tyAt 338), (tyAt 339), (tyAt 340), (tyAt 341), (tyAt 342), (tyAt 343), (tyAt 344), (tyAt 345), (tyAt 346), (tyAt 347), (tyAt 348), (tyAt 349), (tyAt 350), (tyAt 351), (tyAt 352), (tyAt 353), (tyAt 354), (tyAt 355), (tyAt 356), (tyAt 357), (tyAt 358), (tyAt 359), (tyAt 360), (tyAt 361), (tyAt 362), (tyAt 363), (tyAt 364), (tyAt 365), (tyAt 366), (tyAt 367), (tyAt 368), (tyAt 369), (tyAt 370), (tyAt 371), (tyAt 372), (tyAt 373), (tyAt 374), (tyAt 375), (tyAt 376), (tyAt 377), (tyAt 378), (tyAt 379), (tyAt 380), (tyAt 381), (tyAt 382), (tyAt 383), (tyAt 384), (tyAt 385), (tyAt 386), (tyAt 387), (tyAt 388), (tyAt 389)]
theorem ftree_eq : ftree = Tree.ofList flist := by kernel_rfl
theorem itree_eq : itree = Tree.ofList ilist := by kernel_rfl
theorem funcs_eq : Tryz.prog.funcs.toList = flist := by kernel_rfl
theorem ilist_eq : ilist = (List.range 390).map tyAt := by kernel_rfl
theorem types_size : Tryz.prog.types.size = 390 := by kernel_rfl
theorem names_ok : (flist.all fun f => !(f.name == "runtime.NumGoroutine")) = true := by kernel_rfl

/-- Structs that may be compared: of plain fields. -/
def eqList : List Nat := [30, 111]
def eqIn (t : Nat) : List Nat → Bool
  | [] => false
  | x :: r => match Nat.beq t x with | true => true | false => eqIn t r
def eqTypes (t : Nat) : Bool := eqIn t eqList
theorem eqIn_mem {t : Nat} : ∀ {l : List Nat}, eqIn t l = true → t ∈ l := by
  intro l
  induction l with
  | nil => intro h; cases h
  | cons x r ih =>
    intro h
    simp only [eqIn] at h
    split at h
    · rename_i e; rw [Nat.eq_of_beq_eq_true e]; exact List.mem_cons_self
    · exact List.mem_cons_of_mem _ (ih h)
theorem eqs_ok : (eqList.all fun t => !Tryz.prog.stoodInHeld t && !Tryz.prog.eqGuardType Tryz.prog.depth t && (Tryz.prog.fieldsOf t).toList.all fun f => f.name != "_") = true := by kernel_rfl

noncomputable def tab (spec : Nat → Option (List AVal → AMem → Out AVal)) (glob : Nat → Bool) : Tab := ⟨Tryz.prog, glob, fun f => ftree.get f, fun t => itree.get t, spec, eqTypes⟩

theorem tab_ok (spec : Nat → Option (List AVal → AMem → Out AVal)) (glob : Nat → Bool) : TabOk (tab spec glob) Tryz.prog where
  prog := rfl
  fn := by
    intro f x h
    have h1 : flist[f]? = some x := by
      have := h
      simp only [tab, ftree_eq, Tree.get_ofList] at this
      exact this
    refine ⟨by rw [← Array.getElem?_toList, funcs_eq]; exact h1, ?_⟩
    have := List.all_eq_true.1 names_ok x (List.mem_of_getElem? h1)
    simpa using this
  info := by
    intro t i h
    have h1 : ilist[t]? = some i := by
      have := h
      simp only [tab, itree_eq, Tree.get_ofList] at this
      exact this
    rw [ilist_eq, List.getElem?_map] at h1
    have ht : t < 390 := by
      rcases Nat.lt_or_ge t 390 with c | c
      · exact c
      · rw [List.getElem?_eq_none (by simpa using c)] at h1; cases h1
    rw [List.getElem?_range ht] at h1
    cases h1
    have hs : t < Tryz.prog.types.size := by rw [types_size]; exact ht
    show Tables.info? _ t = some (tyAt t)
    unfold Tables.info?
    rw [if_pos hs, tyAt, Array.getD_eq_getD_getElem?, Array.getElem?_eq_getElem hs]
    rfl
  eqs := by
    intro t h
    have := List.all_eq_true.1 eqs_ok t (eqIn_mem h)
    simpa [and_assoc] using this
end Ev
end Go.Proofs.YtiichencpnjbgaaGreatDoor

/-! ## EvShelf -/
namespace Go.Proofs
open Go.Shelf Go.RowKit

def Tryz.evLays219_ren : Go.Shelf.Ren := ⟨fun | 219 => 204 | 217 => 163 | 225 => 259 | 224 => 260 | 267 => 261 | 266 => 233 | 314 => 319 | n => n, fun | 9 => 9 | 3 => 3 | 4 => 4 | 5 => 5 | 46 => 221 | 146 => 335 | 51 => 272 | n => n, fun | 1 => 0 | n => n⟩
theorem Tryz.evLays219 : Go.Proofs.Lays.n219 Tryz.prog Tryz.evLays219_ren := {
  mixed := by kernel_rfl
  f217 := Tryz.func163.trans (congrArg some (by kernel_rfl))
  f219 := Tryz.func204.trans (congrArg some (by kernel_rfl))
  f224 := Tryz.func260.trans (congrArg some (by kernel_rfl))
  f225 := Tryz.func259.trans (congrArg some (by kernel_rfl))
  f266 := Tryz.func233.trans (congrArg some (by kernel_rfl))
  f267 := Tryz.func261.trans (congrArg some (by kernel_rfl))
  f314 := Tryz.func319.trans (congrArg some (by kernel_rfl))
  t3 := Tryz.underlying3
  a3 := Tryz.isAgg3
  z3 := Tryz.sizeOf3
  v3 := Tryz.zeroValue3
  t4 := Tryz.underlying4
  a4 := Tryz.isAgg4
  z4 := Tryz.sizeOf4
  v4 := Tryz.zeroValue4
  t5 := Tryz.underlying5
  a5 := Tryz.isAgg5
  z5 := Tryz.sizeOf5
  v5 := Tryz.zeroValue5
  t9 := Tryz.underlying9
  a9 := Tryz.isAgg9
  z9 := Tryz.sizeOf9
  v9 := Tryz.zeroValue9
  t46 := Tryz.underlying221
  a46 := Tryz.isAgg221
  z46 := Tryz.sizeOf221
  v46 := Tryz.zeroValue221
  t51 := Tryz.underlying272
  a51 := Tryz.isAgg272
  z51 := Tryz.sizeOf272
  v51 := Tryz.zeroValue272
  t146 := Tryz.underlying335
  a146 := Tryz.isAgg335
  z146 := Tryz.sizeOf335
  v146 := Tryz.zeroValue335
  g1 := by kernel_rfl }
def Tryz.evLays105_ren : Go.Shelf.Ren := ⟨fun | 105 => 264 | 212 => 321 | 99 => 109 | 165 => 157 | 166 => 41 | 170 => 145 | 169 => 35 | 263 => 346 | 264 => 347 | 206 => 180 | 240 => 89 | 241 => 225 | 276 => 155 | 277 => 281 | n => n, fun | 9 => 9 | 3 => 3 | 4 => 4 | 20 => 20 | 0 => 0 | 46 => 221 | 109 => 338 | 5 => 5 | 72 => 78 | 76 => 98 | 51 => 272 | 146 => 335 | 53 => 274 | 148 => 360 | 70 => 75 | 37 => 76 | 75 => 97 | 127 => 162 | 164 => 227 | 80 => 82 | n => n, fun | n => n⟩
theorem Tryz.evLays105 : Go.Proofs.Lays.n105 Tryz.prog Tryz.evLays105_ren := {
  mixed := by kernel_rfl
  f99 := Tryz.func109.trans (congrArg some (by kernel_rfl))
  f105 := Tryz.func264.trans (congrArg some (by kernel_rfl))
  f165 := Tryz.func157.trans (congrArg some (by kernel_rfl))
  f166 := Tryz.func41.trans (congrArg some (by kernel_rfl))
  f169 := Tryz.func35.trans (congrArg some (by kernel_rfl))
  f170 := Tryz.func145.trans (congrArg some (by kernel_rfl))
  f206 := Tryz.func180.trans (congrArg some (by kernel_rfl))
  f212 := Tryz.func321.trans (congrArg some (by kernel_rfl))
  f240 := Tryz.func89.trans (congrArg some (by kernel_rfl))
  f241 := Tryz.func225.trans (congrArg some (by kernel_rfl))
  f263 := Tryz.func346.trans (congrArg some (by kernel_rfl))
  f264 := Tryz.func347.trans (congrArg some (by kernel_rfl))
  f276 := Tryz.func155.trans (congrArg some (by kernel_rfl))
  f277 := Tryz.func281.trans (congrArg some (by kernel_rfl))
  t0 := Tryz.underlying0
  a0 := Tryz.isAgg0
  z0 := Tryz.sizeOf0
  v0 := Tryz.zeroValue0
  t3 := Tryz.underlying3
  a3 := Tryz.isAgg3
  z3 := Tryz.sizeOf3
  v3 := Tryz.zeroValue3
  t4 := Tryz.underlying4
  a4 := Tryz.isAgg4
  z4 := Tryz.sizeOf4
  v4 := Tryz.zeroValue4
  t5 := Tryz.underlying5
  a5 := Tryz.isAgg5
  z5 := Tryz.sizeOf5
  v5 := Tryz.zeroValue5
  t9 := Tryz.underlying9
  a9 := Tryz.isAgg9
  z9 := Tryz.sizeOf9
  v9 := Tryz.zeroValue9
  t20 := Tryz.underlying20
  a20 := Tryz.isAgg20
  z20 := Tryz.sizeOf20
  v20 := Tryz.zeroValue20
  t37 := Tryz.underlying76
  a37 := Tryz.isAgg76
  z37 := Tryz.sizeOf76
  v37 := Tryz.zeroValue76
  t46 := Tryz.underlying221
  a46 := Tryz.isAgg221
  z46 := Tryz.sizeOf221
  v46 := Tryz.zeroValue221
  t51 := Tryz.underlying272
  a51 := Tryz.isAgg272
  z51 := Tryz.sizeOf272
  v51 := Tryz.zeroValue272
  t53 := Tryz.underlying274
  a53 := Tryz.isAgg274
  z53 := Tryz.sizeOf274
  v53 := Tryz.zeroValue274
  t70 := Tryz.underlying75
  a70 := Tryz.isAgg75
  z70 := Tryz.sizeOf75
  v70 := Tryz.zeroValue75
  t72 := Tryz.underlying78
  a72 := Tryz.isAgg78
  z72 := Tryz.sizeOf78
  v72 := Tryz.zeroValue78
  t75 := Tryz.underlying97
  a75 := Tryz.isAgg97
  z75 := Tryz.sizeOf97
  v75 := Tryz.zeroValue97
  t76 := Tryz.underlying98
  a76 := Tryz.isAgg98
  z76 := Tryz.sizeOf98
  v76 := Tryz.zeroValue98
  t109 := Tryz.underlying338
  a109 := Tryz.isAgg338
  z109 := Tryz.sizeOf338
  v109 := Tryz.zeroValue338
  t127 := Tryz.underlying162
  a127 := Tryz.isAgg162
  z127 := Tryz.sizeOf162
  v127 := Tryz.zeroValue162
  t146 := Tryz.underlying335
  a146 := Tryz.isAgg335
  z146 := Tryz.sizeOf335
  v146 := Tryz.zeroValue335
  t148 := Tryz.underlying360
  a148 := Tryz.isAgg360
  z148 := Tryz.sizeOf360
  v148 := Tryz.zeroValue360
  t164 := Tryz.underlying227
  a164 := Tryz.isAgg227
  z164 := Tryz.sizeOf227
  v164 := Tryz.zeroValue227 }
def Tryz.evLays99_ren : Go.Shelf.Ren := ⟨fun | 99 => 109 | 206 => 180 | n => n, fun | 9 => 9 | 4 => 4 | 3 => 3 | n => n, fun | n => n⟩
theorem Tryz.evLays99 : Go.Proofs.Lays.n99 Tryz.prog Tryz.evLays99_ren := {
  mixed := by kernel_rfl
  f99 := Tryz.func109.trans (congrArg some (by kernel_rfl))
  f206 := Tryz.func180.trans (congrArg some (by kernel_rfl))
  t3 := Tryz.underlying3
  a3 := Tryz.isAgg3
  z3 := Tryz.sizeOf3
  v3 := Tryz.zeroValue3
  t4 := Tryz.underlying4
  a4 := Tryz.isAgg4
  z4 := Tryz.sizeOf4
  v4 := Tryz.zeroValue4
  t9 := Tryz.underlying9
  a9 := Tryz.isAgg9
  z9 := Tryz.sizeOf9
  v9 := Tryz.zeroValue9 }
theorem Tryz.evExtra : Builder.Extra Tryz.prog Tryz.evLays105_ren := {
  sizeBuilder := by kernel_rfl
  liesBuilder := by kernel_rfl
  t5 := Tryz.evLays105.t5
  a5 := Tryz.evLays105.a5
  z5 := Tryz.evLays105.z5
  v5 := Tryz.evLays105.v5
  infoByte := by kernel_rfl
  cellsByte := by kernel_rfl
  sizeByte := by kernel_rfl
  neB5 := by decide }
end Go.Proofs

/-! ## EvSeat -/
namespace Go.Proofs.YtiichencpnjbgaaGreatDoor
namespace Ev
open Go Go.Shelf

noncomputable def specs : Nat → Option (List AVal → AMem → Out AVal)
  | 155 => some specSame
  | 128 => some specCount
  | 204 => some specIndex
  | 264 => some specRepeat
  | 233 => some specIndexByte
  | 281 => some (specMake 5)
  | 323 => some specCompare
  | _ => none

def globs (g : Nat) : Bool := Nat.ble g 7

noncomputable def seat : Tab := tab specs globs

theorem mixed : Tryz.prog.follows .mixedOrders = true := by kernel_rfl

theorem same_ok : CallOk seat Tryz.prog 155 specSame := specSame_ok Tryz.func155 (by kernel_rfl) (by kernel_rfl) (by kernel_rfl) (by kernel_rfl)
theorem count_ok : CallOk seat Tryz.prog 128 specCount := specCount_ok Tryz.func128 (by kernel_rfl) (by kernel_rfl) (by kernel_rfl) (by kernel_rfl)
theorem index_ok : CallOk seat Tryz.prog 204 specIndex :=
  specIndex_ok rfl (enters_of Tryz.func204 (by kernel_rfl) rfl) fun s sub m w hs hm => Any.stringslite_Index Tryz.evLays219 s sub m w hs hm
theorem repeat_ok : CallOk seat Tryz.prog 264 specRepeat :=
  specRepeat_ok (enters_of Tryz.func264 (by kernel_rfl) rfl) fun s c w hc hl => Any.strings_Repeat Tryz.evLays105 Tryz.evExtra s c w hc hl
theorem indexByte_ok : CallOk seat Tryz.prog 233 specIndexByte := specIndexByte_ok Tryz.func233 (by kernel_rfl) (by kernel_rfl) (by kernel_rfl) (by kernel_rfl)
theorem make_ok : CallOk seat Tryz.prog 281 (specMake 5) := specMake_ok (ps := #[3]) (t := 76) (e := 5) (by kernel_rfl) (by kernel_rfl) Tryz.func281 (by kernel_rfl) (by kernel_rfl) (by kernel_rfl) (by kernel_rfl)
theorem compare_ok : CallOk seat Tryz.prog 323 specCompare := specCompare_ok Tryz.func323 (by kernel_rfl) (by kernel_rfl) (by kernel_rfl) (by kernel_rfl)

theorem specs_ok : ∀ f F, seat.spec f = some F → CallOk seat Tryz.prog f F := by
  intro f F h
  have h : specs f = some F := h
  unfold specs at h
  split at h
  · cases h; exact same_ok
  · cases h; exact count_ok
  · cases h; exact index_ok
  · cases h; exact repeat_ok
  · cases h; exact indexByte_ok
  · cases h; exact make_ok
  · cases h; exact compare_ok
  · cases h

/-- THE EVALUATOR AT THIS SEAT. -/
theorem sound (k : Nat) (f : FuncId) : CallOk seat Tryz.prog f (evFn seat k f) := evFn_sound (tab_ok specs globs) mixed specs_ok k f
end Ev
end Go.Proofs.YtiichencpnjbgaaGreatDoor
