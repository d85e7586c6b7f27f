/- Texts on names, under chapter 17's name. -/
import Derived.Test.YtiehdfokcnphdaaGreatDoorIdd
