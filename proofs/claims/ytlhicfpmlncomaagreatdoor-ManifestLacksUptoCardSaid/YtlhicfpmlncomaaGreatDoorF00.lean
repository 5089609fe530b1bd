/-
  The types of the dump, under short names.
-/
import Derived.Test.YtlhicfpmlncomaaGreatDoorProg
namespace Go.Proofs.YtlhicfpmlncomaaGreatDoor
abbrev uq3 := @Tryz.underlying3
abbrev uq4 := @Tryz.underlying4
abbrev uq5 := @Tryz.underlying5
abbrev uq9 := @Tryz.underlying9
abbrev uq22 := @Tryz.underlying22
abbrev uq24 := @Tryz.underlying24
abbrev uq25 := @Tryz.underlying25
abbrev uq26 := @Tryz.underlying26
abbrev uq28 := @Tryz.underlying28
abbrev uq29 := @Tryz.underlying29
abbrev uq31 := @Tryz.underlying31
abbrev uq32 := @Tryz.underlying32
abbrev uq35 := @Tryz.underlying35
abbrev uq37 := @Tryz.underlying37
abbrev uq38 := @Tryz.underlying38
abbrev uq40 := @Tryz.underlying40
abbrev uq48 := @Tryz.underlying48
abbrev uq49 := @Tryz.underlying49
abbrev uq51 := @Tryz.underlying51
abbrev uq60 := @Tryz.underlying60
abbrev uq70 := @Tryz.underlying70
abbrev uq74 := @Tryz.underlying74
abbrev uq76 := @Tryz.underlying76
abbrev uq80 := @Tryz.underlying80
abbrev uq84 := @Tryz.underlying84
abbrev uq86 := @Tryz.underlying86
abbrev uq127 := @Tryz.underlying127
abbrev uq149 := @Tryz.underlying149
abbrev uq224 := @Tryz.underlying224
abbrev uq249 := @Tryz.underlying249
abbrev uq254 := @Tryz.underlying254
abbrev uq256 := @Tryz.underlying256
end Go.Proofs.YtlhicfpmlncomaaGreatDoor
