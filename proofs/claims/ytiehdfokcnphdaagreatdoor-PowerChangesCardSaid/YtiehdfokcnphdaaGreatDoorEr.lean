/- Errors: the same words as chapter 17's, under that name. -/
import Derived.Test.YtiehdfokcnphdaaGreatDoorEq
import Derived.Deep.QuietTactic
import Derived.BigQuiet
import Derived.KernelRfl
