/-
  Entries of a table of calls with memory. (Conditions: none.)
-/
import Derived.Test.YtjmapihogpdocaaGreatDoorEvAwS
import Derived.Test.YtjmapihogpdocaaGreatDoorEvFrame
namespace Go.Proofs.YtjmapihogpdocaaGreatDoor
namespace Ev
open Go
noncomputable section
def evsk_e0 : Fr where
  args := [.str [115, 101, 116, 32, 49, 32, 47, 97, 32, 53, 10, 114, 111, 117, 110, 100, 10, 118, 97, 108, 117, 101, 32, 50, 10]]
  next := 8
  pre := []
  v := .tuple [.str [111, 107, 10, 49, 10, 123, 34, 97, 34, 58, 53, 125, 10], .int .i64 0]
  last := 17099
  post := []

def evsk_e1 : Fr where
  args := [.str [119, 104, 97, 116]]
  next := 17099
  pre := []
  v := .tuple [.str [], .int .i64 4]
  last := 17105
  post := []

def evsk_e2 : Fr where
  args := [.str [115, 101, 116, 32, 49, 32, 97, 32, 53]]
  next := 17105
  pre := []
  v := .tuple [.str [], .int .i64 4]
  last := 17128
  post := []

def evsk_e3 : Fr where
  args := [.str [99, 111, 110, 118, 101, 114, 116, 32, 106, 115, 111, 110, 32, 99, 115, 118, 32, 34, 91, 123, 92, 34, 97, 92, 34, 58, 49, 125, 93, 34, 10, 99, 111, 110, 118, 101, 114, 116, 32, 106, 115, 111, 110, 32, 116, 111, 109, 108, 32, 34, 91, 34, 10, 99, 111, 110, 118, 101, 114, 116, 32, 106, 115, 111, 110, 32, 116, 111, 109, 108, 32, 34, 110, 117, 108, 108, 34, 10, 115, 97, 109, 101, 32, 49, 32, 51, 10, 115, 101, 116, 32, 57, 32, 47, 97, 32, 49, 10, 115, 101, 116, 32, 49, 32, 46, 32, 49, 10, 110, 101, 116, 10]]
  next := 17128
  pre := []
  v := .tuple [.str [34, 97, 92, 114, 92, 110, 49, 92, 114, 92, 110, 34, 10, 102, 97, 117, 108, 116, 32, 52, 32, 49, 32, 50, 10, 34, 34, 32, 46, 61, 119, 114, 97, 112, 112, 101, 100, 32, 46, 61, 100, 114, 111, 112, 112, 101, 100, 10, 101, 114, 114, 111, 114, 32, 57, 10, 101, 114, 114, 111, 114, 32, 57, 10, 101, 114, 114, 111, 114, 32, 49, 10, 48, 10], .int .i64 0]
  last := 19597
  post := []

def evsk_t14 : List Fr := [evsk_e0, evsk_e1, evsk_e2, evsk_e3]
end
end Ev
end Go.Proofs.YtjmapihogpdocaaGreatDoor
